-- PRINTED by print.py (a twelfth state) out of the translation. Not trusted: Lean checks it.
import Derived.Test.YtnlbbpandnpgoaaDoorPLx0
import Derived.Test.YtnlbbpandnpgoaaDoorPLx1
import Derived.Test.YtnlbbpandnpgoaaDoorPLx2
import Derived.Test.YtnlbbpandnpgoaaDoorLexAlive
import Derived.Test.YtnlbbpandnpgoaaDoorLexGlobs
import Derived.Test.YtnlbbpandnpgoaaDoorLexLex
namespace Go.Proofs.YtnlbbpandnpgoaaDoor.PL
open Go.RowKit Go.Proofs.YtnlbbpandnpgoaaDoorW.PrintWords Go.Proofs.YtnlbbpandnpgoaaDoorW.PrintLast Go.Proofs.YtnlbbpandnpgoaaDoorW.PrintMore
attribute [local go_sem] max2_int min2_int max_two min_two max_three min_three max_four min_four   -- for this text's walks alone
set_option linter.unusedVariables false
set_option linter.unusedSimpArgs false

attribute [local go_sem high] eqA25 eqA35
/-! ### droguelaw03_LexNumbers: function 7 -/
mutual
def droguelaw03_LexNumbers.j0 : Nat → Int → Int → Bool → Option (Bool)
  | 0, _, _, _ => none
  | k + 1, x0, x1, x17 => if x17 = true then (some true) else (droguelaw03_LexNumbers.l0 k x0 x1 (⟨#[]⟩ : ByteArray) (mx x0 (wrap64 (-x0))))
def droguelaw03_LexNumbers.l0 : Nat → Int → Int → ByteArray → Int → Option (Bool)
  | 0, _, _, _, _ => none
  | k + 1, x0, x1, x5, x6 => if x6 > 0 then (if 0 ≤ (Int.tmod x6 10) then (if (Int.tmod x6 10) ≤ (wrap64 ((Int.tmod x6 10) + 1)) then (if (wrap64 ((Int.tmod x6 10) + 1)) ≤ 10 then (if ((⟨#[48, 49, 50, 51, 52, 53, 54, 55, 56, 57]⟩ : ByteArray).extract ((Int.tmod x6 10) : Int).toNat ((wrap64 ((Int.tmod x6 10) + 1)) : Int).toNat).size + x5.size ≤ 9223372036854775807 then (droguelaw03_LexNumbers.l0 k x0 x1 (((⟨#[48, 49, 50, 51, 52, 53, 54, 55, 56, 57]⟩ : ByteArray).extract ((Int.tmod x6 10) : Int).toNat ((wrap64 ((Int.tmod x6 10) + 1)) : Int).toNat) ++ x5) (wrap64 (Int.tdiv x6 10))) else (none)) else (none)) else (none)) else (none)) else (if x5.toList = ([] : List UInt8) then (if 0 ≤ (Int.tmod x6 10) then (if (Int.tmod x6 10) ≤ (wrap64 ((Int.tmod x6 10) + 1)) then (if (wrap64 ((Int.tmod x6 10) + 1)) ≤ 10 then (if ((⟨#[48, 49, 50, 51, 52, 53, 54, 55, 56, 57]⟩ : ByteArray).extract ((Int.tmod x6 10) : Int).toNat ((wrap64 ((Int.tmod x6 10) + 1)) : Int).toNat).size + x5.size ≤ 9223372036854775807 then (droguelaw03_LexNumbers.l0 k x0 x1 (((⟨#[48, 49, 50, 51, 52, 53, 54, 55, 56, 57]⟩ : ByteArray).extract ((Int.tmod x6 10) : Int).toNat ((wrap64 ((Int.tmod x6 10) + 1)) : Int).toNat) ++ x5) (wrap64 (Int.tdiv x6 10))) else (none)) else (none)) else (none)) else (none)) else (droguelaw03_LexNumbers.l1 k x0 x1 x5 0))
def droguelaw03_LexNumbers.l1 : Nat → Int → Int → ByteArray → Int → Option (Bool)
  | 0, _, _, _, _ => none
  | k + 1, x0, x1, x5, x7 => if x7 < (wrap64 (Int.tmod x1 5)) then (if 1 + x5.size ≤ 9223372036854775807 then (droguelaw03_LexNumbers.l1 k x0 x1 ((⟨#[48]⟩ : ByteArray) ++ x5) (wrap64 (x7 + 1))) else (none)) else (if x0 < 0 then (if 1 + x5.size ≤ 9223372036854775807 then (if 2 + ((⟨#[45]⟩ : ByteArray) ++ x5).size ≤ 9223372036854775807 then (if ((⟨#[120, 32]⟩ : ByteArray) ++ ((⟨#[45]⟩ : ByteArray) ++ x5)).size + 1 ≤ 9223372036854775807 then ((lex_Lex.f (((⟨#[120, 32]⟩ : ByteArray) ++ ((⟨#[45]⟩ : ByteArray) ++ x5)) ++ (⟨#[121]⟩ : ByteArray))).bind fun bt252 => (if x0 < (-1099511627776) then (if (bt252.2.1 == 2 && (bt252.2.2 == 1)) = true then (some ((bt252.1.length : Int) == 0)) else (some false)) else (if x0 > 1099511627776 then (if (bt252.2.1 == 2 && (bt252.2.2 == 1)) = true then (some ((bt252.1.length : Int) == 0)) else (some false)) else (if (bt252.2.1 == 0 && (bt252.2.2 == 0)) = true then (if (bt252.1.length : Int) = 3 then (if 1 < (bt252.1.length : Int) then (if (((rd_T35 bt252.1 1).f0) == 3 && (((rd_T35 bt252.1 1).f1) == 2 && ((((rd_T35 bt252.1 1).f2).toList) == (((⟨#[45]⟩ : ByteArray) ++ x5).toList) && (((rd_T35 bt252.1 1).f3) == x0)))) = true then (if 2 < (bt252.1.length : Int) then (some (((rd_T35 bt252.1 2).f0) == 1 && (((rd_T35 bt252.1 2).f1) == (wrap64 (2 + (((⟨#[45]⟩ : ByteArray) ++ x5).size : Int))) && ((((rd_T35 bt252.1 2).f2).toList) == ([121] : List UInt8) && (((rd_T35 bt252.1 2).f3) == 0))))) else (none)) else (some false)) else (none)) else (some false)) else (some false))))) else (none)) else (none)) else (none)) else (if 2 + x5.size ≤ 9223372036854775807 then (if ((⟨#[120, 32]⟩ : ByteArray) ++ x5).size + 1 ≤ 9223372036854775807 then ((lex_Lex.f (((⟨#[120, 32]⟩ : ByteArray) ++ x5) ++ (⟨#[121]⟩ : ByteArray))).bind fun bt260 => (if x0 < (-1099511627776) then (if (bt260.2.1 == 2 && (bt260.2.2 == 1)) = true then (some ((bt260.1.length : Int) == 0)) else (some false)) else (if x0 > 1099511627776 then (if (bt260.2.1 == 2 && (bt260.2.2 == 1)) = true then (some ((bt260.1.length : Int) == 0)) else (some false)) else (if (bt260.2.1 == 0 && (bt260.2.2 == 0)) = true then (if (bt260.1.length : Int) = 3 then (if 1 < (bt260.1.length : Int) then (if (((rd_T35 bt260.1 1).f0) == 3 && (((rd_T35 bt260.1 1).f1) == 2 && ((((rd_T35 bt260.1 1).f2).toList) == x5.toList && (((rd_T35 bt260.1 1).f3) == x0)))) = true then (if 2 < (bt260.1.length : Int) then (some (((rd_T35 bt260.1 2).f0) == 1 && (((rd_T35 bt260.1 2).f1) == (wrap64 (2 + (x5.size : Int))) && ((((rd_T35 bt260.1 2).f2).toList) == ([121] : List UInt8) && (((rd_T35 bt260.1 2).f3) == 0))))) else (none)) else (some false)) else (none)) else (some false)) else (some false))))) else (none)) else (none)))
end
def droguelaw03_LexNumbers.f (k : Nat) (a0 : Int) (a1 : Int) : Option (Bool) := (droguelaw03_alive.f).bind fun t251 => (if t251 = true then (if a0 < (-1125899906842624) then (droguelaw03_LexNumbers.j0 k a0 a1 true) else (droguelaw03_LexNumbers.j0 k a0 a1 (decide (a0 > 1125899906842624)))) else (some false))
theorem droguelaw03_LexNumbers.mono_l : ∀ k, (∀ y0 y1 y2, LeO (droguelaw03_LexNumbers.j0 k y0 y1 y2) (droguelaw03_LexNumbers.j0 (k + 1) y0 y1 y2)) ∧ (∀ y0 y1 y2 y3, LeO (droguelaw03_LexNumbers.l0 k y0 y1 y2 y3) (droguelaw03_LexNumbers.l0 (k + 1) y0 y1 y2 y3)) ∧ (∀ y0 y1 y2 y3, LeO (droguelaw03_LexNumbers.l1 k y0 y1 y2 y3) (droguelaw03_LexNumbers.l1 (k + 1) y0 y1 y2 y3))
  | 0 => ⟨fun _ _ _ r h => by simp [droguelaw03_LexNumbers.j0] at h, fun _ _ _ _ r h => by simp [droguelaw03_LexNumbers.l0] at h, fun _ _ _ _ r h => by simp [droguelaw03_LexNumbers.l1] at h⟩
  | k + 1 => by
    obtain ⟨ih0, ih1, ih2⟩ := droguelaw03_LexNumbers.mono_l k
    refine ⟨?_, ?_, ?_⟩
    · intro y0 y1 y2
      unfold droguelaw03_LexNumbers.j0
      repeat' first
      | (with_reducible exact ih0 _ _ _)
      | (with_reducible exact ih1 _ _ _ _)
      | (with_reducible exact ih2 _ _ _ _)
      | (with_reducible exact LeO.refl _)
      | (with_reducible exact LeO.none _)
      | (with_reducible refine LeO.ite ?_ ?_)
      | (with_reducible refine LeO.bind ?_ (fun _ => ?_))
      | exact ih0 _ _ _
      | exact ih1 _ _ _ _
      | exact ih2 _ _ _ _
      | exact LeO.none _
      | refine LeO.ite ?_ ?_
      | refine LeO.bind ?_ (fun _ => ?_)
    · intro y0 y1 y2 y3
      unfold droguelaw03_LexNumbers.l0
      repeat' first
      | (with_reducible exact ih0 _ _ _)
      | (with_reducible exact ih1 _ _ _ _)
      | (with_reducible exact ih2 _ _ _ _)
      | (with_reducible exact LeO.refl _)
      | (with_reducible exact LeO.none _)
      | (with_reducible refine LeO.ite ?_ ?_)
      | (with_reducible refine LeO.bind ?_ (fun _ => ?_))
      | exact ih0 _ _ _
      | exact ih1 _ _ _ _
      | exact ih2 _ _ _ _
      | exact LeO.none _
      | refine LeO.ite ?_ ?_
      | refine LeO.bind ?_ (fun _ => ?_)
    · intro y0 y1 y2 y3
      unfold droguelaw03_LexNumbers.l1
      repeat' first
      | (with_reducible exact ih0 _ _ _)
      | (with_reducible exact ih1 _ _ _ _)
      | (with_reducible exact ih2 _ _ _ _)
      | (with_reducible exact LeO.refl _)
      | (with_reducible exact LeO.none _)
      | (with_reducible refine LeO.ite ?_ ?_)
      | (with_reducible refine LeO.bind ?_ (fun _ => ?_))
      | exact ih0 _ _ _
      | exact ih1 _ _ _ _
      | exact ih2 _ _ _ _
      | exact LeO.none _
      | refine LeO.ite ?_ ?_
      | refine LeO.bind ?_ (fun _ => ?_)
theorem droguelaw03_LexNumbers.mono : ∀ a0 a1 k, LeO (droguelaw03_LexNumbers.f k a0 a1) (droguelaw03_LexNumbers.f (k + 1) a0 a1) := by
  intro a0 a1 k
  obtain ⟨ih0, ih1, ih2⟩ := droguelaw03_LexNumbers.mono_l k
  unfold droguelaw03_LexNumbers.f
  repeat' first
      | (with_reducible exact ih0 _ _ _)
      | (with_reducible exact ih1 _ _ _ _)
      | (with_reducible exact ih2 _ _ _ _)
      | (with_reducible exact LeO.refl _)
      | (with_reducible exact LeO.none _)
      | (with_reducible refine LeO.ite ?_ ?_)
      | (with_reducible refine LeO.bind ?_ (fun _ => ?_))
      | exact ih0 _ _ _
      | exact ih1 _ _ _ _
      | exact ih2 _ _ _ _
      | exact LeO.none _
      | refine LeO.ite ?_ ?_
      | refine LeO.bind ?_ (fun _ => ?_)
set_option maxHeartbeats 8000000 in
set_option maxRecDepth 100000 in
theorem droguelaw03_LexNumbers.calls (k : Nat) (a0 : Int) (a1 : Int) (r : Bool) (w : World) (hG : Globs w) (h : droguelaw03_LexNumbers.f k a0 a1 = some r) :
    Calls Tryd.prog 7 #[.int .i64 a0, .int .u8 a1] w fun e w' => e = .returned (.bool r) ∧ Below w.heap.size w w' := by
  have hu25 := Tryd.underlying25
  have hu35 := Tryd.underlying35
  have HG := Aside0.mk hG
  clear hG
  have HB := Aside0.mk (Below.refl w.heap.size w)
  have H : ((droguelaw03_alive.f).bind fun t251 => (if t251 = true then (if a0 < (-1125899906842624) then (droguelaw03_LexNumbers.j0 k a0 a1 true) else (droguelaw03_LexNumbers.j0 k a0 a1 (decide (a0 > 1125899906842624)))) else (some false))) = some r := h
  clear h
  replace H := Option.bind_eq_some_iff.mp H
  obtain ⟨t251, A30, H⟩ := H
  replace H : (if t251 = true then (if a0 < (-1125899906842624) then (droguelaw03_LexNumbers.j0 k a0 a1 true) else (droguelaw03_LexNumbers.j0 k a0 a1 (decide (a0 > 1125899906842624)))) else (some false)) = some r := H
  have A3 := Aside0.mk A30
  clear A30
  by_cases c4 : t251 = true
  · subst c4
    have H1 : (if a0 < (-1125899906842624) then (droguelaw03_LexNumbers.j0 k a0 a1 true) else (droguelaw03_LexNumbers.j0 k a0 a1 (decide (a0 > 1125899906842624)))) = some r := by rw [if_pos rfl] at H; exact H
    clear H
    have H := H1
    clear H1
    have HC5 := Aside0.mk H
    clear H
    go_enter Tryd.func7, Tryd.ntmps7
    go_upto_region 3 with (first | ((with_reducible refine gate_callee (f := 9) rfl ?_); refine goesL_ (some 10) rfl rfl Tryd.func9 (by kernel_rfl) rfl #[] rfl (by (try simp only [List.map_toArray, List.map_cons, List.map_nil]); first | done | rfl | (simp only [List.length_drop, List.length_take]; rfl)) ?_; (with_reducible refine (droguelaw03_alive.calls  true _ ?side1 A3.out).mono ?_); (case side1 => exact Globs.below HG.out (by repeat (first | (with_reducible first | exact HB.out | apply below_alloc | apply pw_below_drewN | apply below_drew1) | exact HB.out))); rintro e w6 ⟨rfl, hb⟩; refine ⟨_, rfl, ?_⟩; have n0_ := Aside0.mk (below_step (by repeat (first | (with_reducible first | exact HB.out | apply below_alloc | apply pw_below_drewN | apply below_drew1) | exact HB.out)) hb); clear HB; have HB := n0_; clear n0_; (try clear hb); (try clear hb2); (try clear hk); (try clear hi)))
    (try simp only [Act.put, List.setIfInBounds_toArray, List.set_cons_zero, List.set_cons_succ])
    go_cut [17] (fun v17 wc => ∃ (kq : Nat) (x17_4 : Bool), v17 = .bool x17_4 ∧ Aside0 (droguelaw03_LexNumbers.j0 kq a0 a1 x17_4 = some r) ∧ Aside0 (kq ≤ k) ∧ Aside0 (Below w.heap.size w wc))
    case first =>
      have H := HC5.out
      clear HC5
      by_cases c7 : a0 < (-1125899906842624)
      · rw [if_pos c7] at H
        have c7b0 : decide (a0 < (-1125899906842624)) = true := decide_eq_true c7
        clear c7
        (first | rw [c7b0] | (simp only [i64_w, i32_w]; rw [c7b0]) | skip)
        have H' := Aside0.mk H
        clear H
        go_wp2
        go_meet
        case rel => exact ⟨_, (true), (by first | rfl | (simp; done) | (simp [*]; done)), H', ⟨by first | omega | exact Nat.le_refl _⟩, ⟨by repeat (first | (with_reducible first | exact HB.out | apply below_alloc | apply pw_below_drewN | apply below_drew1) | exact HB.out)⟩⟩
      · rw [if_neg c7] at H
        have c7b0 : decide (a0 < (-1125899906842624)) = false := decide_eq_false c7
        clear c7
        (first | rw [c7b0] | (simp only [i64_w, i32_w]; rw [c7b0]) | skip)
        have H' := Aside0.mk H
        clear H
        go_wp2
        go_meet
        case rel => exact ⟨_, (decide (a0 > 1125899906842624)), (by first | rfl | (simp; done) | (simp [*]; done)), H', ⟨by first | omega | exact Nat.le_refl _⟩, ⟨by repeat (first | (with_reducible first | exact HB.out | apply below_alloc | apply pw_below_drewN | apply below_drew1) | exact HB.out)⟩⟩
    case rest =>
      clear HC5
      try clear p2
      try clear c4
      try clear c7
      try clear c7b0
      obtain ⟨kq, x17_4, rfl, HA, HJ4, HB⟩ := hcut
      cases kq with
      | zero => exact absurd HA.out (by simp [droguelaw03_LexNumbers.j0])
      | succ kj4 =>
        have H := HA.out
        clear HA
        simp only [droguelaw03_LexNumbers.j0] at H
        by_cases c8 : x17_4 = true
        · subst c8
          have H1 : (some true) = some r := by rw [if_pos rfl] at H; exact H
          clear H
          have H := H1
          clear H1
          obtain rfl := Option.some.inj H
          go_wp2
          go_ret
          exact ⟨by first | rfl | (simp [errW_none, errW_some] <;> rfl) | (simp [*, errW_none, errW_some] <;> rfl), by repeat (first | (with_reducible first | exact HB.out | apply below_alloc | apply pw_below_drewN | apply below_drew1) | exact HB.out)⟩
        · replace c8 := Bool.eq_false_iff.mpr c8
          subst c8
          have H1 : (droguelaw03_LexNumbers.l0 kj4 a0 a1 (⟨#[]⟩ : ByteArray) (mx a0 (wrap64 (-a0)))) = some r := by rw [if_neg (show ¬ (false = true) by decide)] at H; exact H
          clear H
          have H := H1
          clear H1
          obtain ⟨ji9, hji9⟩ : ∃ j_ : Int, (mx a0 (wrap64 (-a0))) = j_ := ⟨_, rfl⟩
          replace H : (droguelaw03_LexNumbers.l0 kj4 a0 a1 (⟨#[]⟩ : ByteArray) ji9) = some r := by first | (rw [hji9] at H; exact H) | (simp only [hji9] at H ⊢; exact H)
          have hji9_ : (if a0 < (wrap64 (-a0)) then (wrap64 (-a0)) else a0) = ji9 := hji9
          have H' := Aside0.mk H
          clear H
          go_wp2
          go_loopg [5, 6] kj4 (fun kq v5 v6 w' => ∃ (x5_2 : ByteArray) (x6_2 : Int), v5 = .string x5_2 ∧ v6 = .int .i64 x6_2 ∧ Aside0 (droguelaw03_LexNumbers.l0 kq a0 a1 x5_2 x6_2 = some r) ∧ Aside0 (kq ≤ kj4) ∧ Aside0 (Below w.heap.size w w'))
          case atStart => exact ⟨((⟨#[]⟩ : ByteArray)), (ji9), (by first | rfl | (simp; done) | (simp [*]; done)), (by first | rfl | (simp; done) | (simp only [← hji9] <;> (first | rfl | simp)) | (simp [*]; done)), H', ⟨Nat.le_refl _⟩, ⟨by repeat (first | (with_reducible first | exact HB.out | apply below_alloc | apply pw_below_drewN | apply below_drew1) | exact HB.out)⟩⟩
          case round =>
            clear H'
            try clear p2
            try clear c4
            try clear p6
            try clear c7
            try clear c7b0
            try clear c8
            try clear c9
            try clear p2
            obtain ⟨x5_2, x6_2, rfl, rfl, HA, HK2, HB⟩ := hrel
            cases gk with
            | zero => exact absurd HA.out (by simp [droguelaw03_LexNumbers.l0])
            | succ k2 =>
              have H := HA.out
              clear HA
              simp only [droguelaw03_LexNumbers.l0] at H
              by_cases c10 : x6_2 > 0
              · rw [if_pos c10] at H
                have c10b0 : decide (0 < x6_2) = true := decide_eq_true c10
                clear c10
                obtain ⟨ji11, hji11⟩ : ∃ j_ : Int, (Int.tmod x6_2 10) = j_ := ⟨_, rfl⟩
                replace H : (if 0 ≤ (ji11) then (if (ji11) ≤ (wrap64 ((ji11) + 1)) then (if (wrap64 ((ji11) + 1)) ≤ 10 then (if ((⟨#[48, 49, 50, 51, 52, 53, 54, 55, 56, 57]⟩ : ByteArray).extract ((ji11) : Int).toNat ((wrap64 ((ji11) + 1)) : Int).toNat).size + x5_2.size ≤ 9223372036854775807 then (droguelaw03_LexNumbers.l0 k2 a0 a1 (((⟨#[48, 49, 50, 51, 52, 53, 54, 55, 56, 57]⟩ : ByteArray).extract ((ji11) : Int).toNat ((wrap64 ((ji11) + 1)) : Int).toNat) ++ x5_2) (wrap64 (Int.tdiv x6_2 10))) else (none)) else (none)) else (none)) else (none)) = some r := by first | (rw [hji11] at H; exact H) | (simp only [hji11] at H ⊢; exact H)
                by_cases c12 : 0 ≤ (ji11)
                · rw [if_pos c12] at H
                  have c12b0 := eq_true c12
                  have c12b1 : decide (0 ≤ (ji11)) = true := decide_eq_true c12
                  clear c12
                  by_cases c13 : (ji11) ≤ (wrap64 ((ji11) + 1))
                  · rw [if_pos c13] at H
                    have c13b0 := eq_true c13
                    have c13b1 : decide ((ji11) ≤ (wrap64 ((ji11) + 1))) = true := decide_eq_true c13
                    by_cases c14 : (wrap64 ((ji11) + 1)) ≤ 10
                    · rw [if_pos c14] at H
                      have c14b0 := eq_true c14
                      have c14b1 : decide ((wrap64 ((ji11) + 1)) ≤ 10) = true := decide_eq_true c14
                      by_cases c15 : ((⟨#[48, 49, 50, 51, 52, 53, 54, 55, 56, 57]⟩ : ByteArray).extract ((ji11) : Int).toNat ((wrap64 ((ji11) + 1)) : Int).toNat).size + x5_2.size ≤ 9223372036854775807
                      · rw [if_pos c15] at H
                        have c15b0 := eq_true c15
                        have c15b1 : decide (((⟨#[48, 49, 50, 51, 52, 53, 54, 55, 56, 57]⟩ : ByteArray).extract ((ji11) : Int).toNat ((wrap64 ((ji11) + 1)) : Int).toNat).size + x5_2.size ≤ 9223372036854775807) = true := decide_eq_true c15
                        try have c15b2 : (9223372036854775807 < ((⟨#[48, 49, 50, 51, 52, 53, 54, 55, 56, 57]⟩ : ByteArray).extract ((ji11) : Int).toNat ((wrap64 ((ji11) + 1)) : Int).toNat).size + x5_2.size) = False := eq_false (Nat.not_lt.2 c15)
                        have H' := Aside0.mk H
                        clear H
                        go_wp2
                        go_roundg k2
                        case measure => have := HJ4.out; have := HK2.out; omega
                        case rel => exact ⟨(((⟨#[48, 49, 50, 51, 52, 53, 54, 55, 56, 57]⟩ : ByteArray).extract ((ji11) : Int).toNat ((wrap64 ((ji11) + 1)) : Int).toNat) ++ x5_2), (wrap64 (Int.tdiv x6_2 10)), (by first | rfl | (simp; done) | (simp only [← hji11] <;> (first | rfl | simp)) | (simp [*]; done)), (by first | rfl | (simp; done) | (simp [*]; done)), H', ⟨by have := HJ4.out; have := HK2.out; omega⟩, ⟨by repeat (first | (with_reducible first | exact HB.out | apply below_alloc | apply pw_below_drewN | apply below_drew1) | exact HB.out)⟩⟩
                      · rw [if_neg c15] at H
                        exact absurd H (by simp)
                    · rw [if_neg c14] at H
                      exact absurd H (by simp)
                  · rw [if_neg c13] at H
                    exact absurd H (by simp)
                · rw [if_neg c12] at H
                  exact absurd H (by simp)
              · rw [if_neg c10] at H
                have c10b0 : decide (0 < x6_2) = false := decide_eq_false c10
                clear c10
                by_cases c16 : x5_2.toList = ([] : List UInt8)
                · rw [if_pos c16] at H
                  have c16b0 : (x5_2.toList == ([] : List UInt8)) = true := beq_iff_eq.mpr c16
                  have c16b1 : (x5_2.toList != ([] : List UInt8)) = false := bne_eq_false_iff_eq.mpr c16
                  clear c16
                  obtain ⟨ji17, hji17⟩ : ∃ j_ : Int, (Int.tmod x6_2 10) = j_ := ⟨_, rfl⟩
                  replace H : (if 0 ≤ (ji17) then (if (ji17) ≤ (wrap64 ((ji17) + 1)) then (if (wrap64 ((ji17) + 1)) ≤ 10 then (if ((⟨#[48, 49, 50, 51, 52, 53, 54, 55, 56, 57]⟩ : ByteArray).extract ((ji17) : Int).toNat ((wrap64 ((ji17) + 1)) : Int).toNat).size + x5_2.size ≤ 9223372036854775807 then (droguelaw03_LexNumbers.l0 k2 a0 a1 (((⟨#[48, 49, 50, 51, 52, 53, 54, 55, 56, 57]⟩ : ByteArray).extract ((ji17) : Int).toNat ((wrap64 ((ji17) + 1)) : Int).toNat) ++ x5_2) (wrap64 (Int.tdiv x6_2 10))) else (none)) else (none)) else (none)) else (none)) = some r := by first | (rw [hji17] at H; exact H) | (simp only [hji17] at H ⊢; exact H)
                  by_cases c18 : 0 ≤ (ji17)
                  · rw [if_pos c18] at H
                    have c18b0 := eq_true c18
                    have c18b1 : decide (0 ≤ (ji17)) = true := decide_eq_true c18
                    clear c18
                    by_cases c19 : (ji17) ≤ (wrap64 ((ji17) + 1))
                    · rw [if_pos c19] at H
                      have c19b0 := eq_true c19
                      have c19b1 : decide ((ji17) ≤ (wrap64 ((ji17) + 1))) = true := decide_eq_true c19
                      by_cases c20 : (wrap64 ((ji17) + 1)) ≤ 10
                      · rw [if_pos c20] at H
                        have c20b0 := eq_true c20
                        have c20b1 : decide ((wrap64 ((ji17) + 1)) ≤ 10) = true := decide_eq_true c20
                        by_cases c21 : ((⟨#[48, 49, 50, 51, 52, 53, 54, 55, 56, 57]⟩ : ByteArray).extract ((ji17) : Int).toNat ((wrap64 ((ji17) + 1)) : Int).toNat).size + x5_2.size ≤ 9223372036854775807
                        · rw [if_pos c21] at H
                          have c21b0 := eq_true c21
                          have c21b1 : decide (((⟨#[48, 49, 50, 51, 52, 53, 54, 55, 56, 57]⟩ : ByteArray).extract ((ji17) : Int).toNat ((wrap64 ((ji17) + 1)) : Int).toNat).size + x5_2.size ≤ 9223372036854775807) = true := decide_eq_true c21
                          try have c21b2 : (9223372036854775807 < ((⟨#[48, 49, 50, 51, 52, 53, 54, 55, 56, 57]⟩ : ByteArray).extract ((ji17) : Int).toNat ((wrap64 ((ji17) + 1)) : Int).toNat).size + x5_2.size) = False := eq_false (Nat.not_lt.2 c21)
                          have H' := Aside0.mk H
                          clear H
                          go_wp2
                          go_roundg k2
                          case measure => have := HJ4.out; have := HK2.out; omega
                          case rel => exact ⟨(((⟨#[48, 49, 50, 51, 52, 53, 54, 55, 56, 57]⟩ : ByteArray).extract ((ji17) : Int).toNat ((wrap64 ((ji17) + 1)) : Int).toNat) ++ x5_2), (wrap64 (Int.tdiv x6_2 10)), (by first | rfl | (simp; done) | (simp only [← hji17] <;> (first | rfl | simp)) | (simp [*]; done)), (by first | rfl | (simp; done) | (simp [*]; done)), H', ⟨by have := HJ4.out; have := HK2.out; omega⟩, ⟨by repeat (first | (with_reducible first | exact HB.out | apply below_alloc | apply pw_below_drewN | apply below_drew1) | exact HB.out)⟩⟩
                        · rw [if_neg c21] at H
                          exact absurd H (by simp)
                      · rw [if_neg c20] at H
                        exact absurd H (by simp)
                    · rw [if_neg c19] at H
                      exact absurd H (by simp)
                  · rw [if_neg c18] at H
                    exact absurd H (by simp)
                · rw [if_neg c16] at H
                  have c16b0 : (x5_2.toList == ([] : List UInt8)) = false := beq_eq_false_iff_ne.mpr c16
                  have c16b1 : (x5_2.toList != ([] : List UInt8)) = true := bne_iff_ne.mpr c16
                  have H' := Aside0.mk H
                  clear H
                  go_wp2
                  go_loopg [5, 7] k2 (fun kq v5 v7 w' => ∃ (x5_3 : ByteArray) (x7_3 : Int), v5 = .string x5_3 ∧ v7 = .int .i64 x7_3 ∧ Aside0 (droguelaw03_LexNumbers.l1 kq a0 a1 x5_3 x7_3 = some r) ∧ Aside0 (kq ≤ k2) ∧ Aside0 (Below w.heap.size w w'))
                  case atStart => exact ⟨(x5_2), (0), (by first | rfl | (simp; done) | (simp [*]; done)), (by first | rfl | (simp; done) | (simp [*]; done)), H', ⟨Nat.le_refl _⟩, ⟨by repeat (first | (with_reducible first | exact HB.out | apply below_alloc | apply pw_below_drewN | apply below_drew1) | exact HB.out)⟩⟩
                  case round =>
                    clear H'
                    try clear c1
                    try clear c2
                    try clear p2
                    try clear c4
                    try clear p6
                    try clear c7
                    try clear c7b0
                    try clear c8
                    try clear c9
                    try clear c10
                    try clear c10b0
                    try clear c12
                    try clear c12b0
                    try clear c12b1
                    try clear c13
                    try clear c13b0
                    try clear c13b1
                    try clear c14
                    try clear c14b0
                    try clear c14b1
                    try clear c15
                    try clear c15b0
                    try clear c15b1
                    try clear c15b2
                    try clear c16
                    try clear c16b0
                    try clear c16b1
                    try clear c18
                    try clear c18b0
                    try clear c18b1
                    try clear c19
                    try clear c19b0
                    try clear c19b1
                    try clear c20
                    try clear c20b0
                    try clear c20b1
                    try clear c21
                    try clear c21b0
                    try clear c21b1
                    try clear c21b2
                    try clear p2
                    try clear p6
                    obtain ⟨x5_3, x7_3, rfl, rfl, HA, HK3, HB⟩ := hrel
                    cases gk with
                    | zero => exact absurd HA.out (by simp [droguelaw03_LexNumbers.l1])
                    | succ k3 =>
                      have H := HA.out
                      clear HA
                      simp only [droguelaw03_LexNumbers.l1] at H
                      by_cases c22 : x7_3 < (wrap64 (Int.tmod a1 5))
                      · rw [if_pos c22] at H
                        have c22b0 : decide (x7_3 < (wrap64 (Int.tmod a1 5))) = true := decide_eq_true c22
                        clear c22
                        by_cases c23 : 1 + x5_3.size ≤ 9223372036854775807
                        · rw [if_pos c23] at H
                          have c23b0 := eq_true c23
                          have c23b1 : decide (1 + x5_3.size ≤ 9223372036854775807) = true := decide_eq_true c23
                          try have c23b2 : (9223372036854775807 < 1 + x5_3.size) = False := eq_false (Nat.not_lt.2 c23)
                          have H' := Aside0.mk H
                          clear H
                          go_wp2
                          go_roundg k3
                          case measure => have := HJ4.out; have := HK2.out; have := HK3.out; omega
                          case rel => exact ⟨((⟨#[48]⟩ : ByteArray) ++ x5_3), (wrap64 (x7_3 + 1)), (by first | rfl | (simp; done) | (simp [*]; done)), (by first | rfl | (simp; done) | (simp [*]; done)), H', ⟨by have := HJ4.out; have := HK2.out; have := HK3.out; omega⟩, ⟨by repeat (first | (with_reducible first | exact HB.out | apply below_alloc | apply pw_below_drewN | apply below_drew1) | exact HB.out)⟩⟩
                        · rw [if_neg c23] at H
                          exact absurd H (by simp)
                      · rw [if_neg c22] at H
                        have c22b0 : decide (x7_3 < (wrap64 (Int.tmod a1 5))) = false := decide_eq_false c22
                        clear c22
                        by_cases c24 : a0 < 0
                        · rw [if_pos c24] at H
                          have c24b0 : decide (a0 < 0) = true := decide_eq_true c24
                          clear c24
                          by_cases c25 : 1 + x5_3.size ≤ 9223372036854775807
                          · rw [if_pos c25] at H
                            have c25b0 := eq_true c25
                            have c25b1 : decide (1 + x5_3.size ≤ 9223372036854775807) = true := decide_eq_true c25
                            try have c25b2 : (9223372036854775807 < 1 + x5_3.size) = False := eq_false (Nat.not_lt.2 c25)
                            by_cases c26 : 2 + ((⟨#[45]⟩ : ByteArray) ++ x5_3).size ≤ 9223372036854775807
                            · rw [if_pos c26] at H
                              have c26b0 := eq_true c26
                              have c26b1 : decide (2 + ((⟨#[45]⟩ : ByteArray) ++ x5_3).size ≤ 9223372036854775807) = true := decide_eq_true c26
                              try have c26b2 : (9223372036854775807 < 2 + ((⟨#[45]⟩ : ByteArray) ++ x5_3).size) = False := eq_false (Nat.not_lt.2 c26)
                              try have c26b8 : (9223372036854775807 < 2 + (1 + x5_3.size)) = False := eq_false (by have h_ := of_decide_eq_true c26b1; simp only [ByteArray.size_append] at h_; have e0_ : (⟨#[45]⟩ : ByteArray).size = 1 := rfl; omega)
                              by_cases c27 : ((⟨#[120, 32]⟩ : ByteArray) ++ ((⟨#[45]⟩ : ByteArray) ++ x5_3)).size + 1 ≤ 9223372036854775807
                              · rw [if_pos c27] at H
                                have c27b0 := eq_true c27
                                have c27b1 : decide (((⟨#[120, 32]⟩ : ByteArray) ++ ((⟨#[45]⟩ : ByteArray) ++ x5_3)).size + 1 ≤ 9223372036854775807) = true := decide_eq_true c27
                                try have c27b2 : (9223372036854775807 < ((⟨#[120, 32]⟩ : ByteArray) ++ ((⟨#[45]⟩ : ByteArray) ++ x5_3)).size + 1) = False := eq_false (Nat.not_lt.2 c27)
                                try have c27b8 : (9223372036854775807 < (2 + (1 + x5_3.size)) + 1) = False := eq_false (by have h_ := of_decide_eq_true c27b1; simp only [ByteArray.size_append] at h_; have e0_ : (⟨#[120, 32]⟩ : ByteArray).size = 2 := rfl; have e1_ : (⟨#[45]⟩ : ByteArray).size = 1 := rfl; omega)
                                replace H := Option.bind_eq_some_iff.mp H
                                obtain ⟨⟨t252, t255, t256⟩, A280, H⟩ := H
                                replace H : (if a0 < (-1099511627776) then (if (t255 == 2 && (t256 == 1)) = true then (some ((t252.length : Int) == 0)) else (some false)) else (if a0 > 1099511627776 then (if (t255 == 2 && (t256 == 1)) = true then (some ((t252.length : Int) == 0)) else (some false)) else (if (t255 == 0 && (t256 == 0)) = true then (if (t252.length : Int) = 3 then (if 1 < (t252.length : Int) then (if (((rd_T35 t252 1).f0) == 3 && (((rd_T35 t252 1).f1) == 2 && ((((rd_T35 t252 1).f2).toList) == (((⟨#[45]⟩ : ByteArray) ++ x5_3).toList) && (((rd_T35 t252 1).f3) == a0)))) = true then (if 2 < (t252.length : Int) then (some (((rd_T35 t252 2).f0) == 1 && (((rd_T35 t252 2).f1) == (wrap64 (2 + (((⟨#[45]⟩ : ByteArray) ++ x5_3).size : Int))) && ((((rd_T35 t252 2).f2).toList) == ([121] : List UInt8) && (((rd_T35 t252 2).f3) == 0))))) else (none)) else (some false)) else (none)) else (some false)) else (some false)))) = some r := H
                                have A28 := Aside0.mk A280
                                clear A280
                                by_cases c29 : a0 < (-1099511627776)
                                · rw [if_pos c29] at H
                                  have c29b0 : decide (a0 < (-1099511627776)) = true := decide_eq_true c29
                                  clear c29
                                  by_cases c30 : (t255 == 2 && (t256 == 1)) = true
                                  · rw [if_pos c30] at H
                                    have c30b0 : (t255 == 2 && (t256 == 1)) = true := c30
                                    (try (have c30b1 : decide (t255 = 2 && (t256 == 1)) = true := by simpa using c30))
                                    (try (have c30b2 : (t255 == 2 && (t256 == 1)) = true := by simpa using c30))
                                    clear c30
                                    obtain rfl := Option.some.inj H
                                    go_wp2_with (first | ((with_reducible refine gate_callee (f := 10) rfl ?_); refine goesL_ (some 55) rfl rfl Tryd.func10 (by kernel_rfl) rfl #[.string (((⟨#[120, 32]⟩ : ByteArray) ++ ((⟨#[45]⟩ : ByteArray) ++ x5_3)) ++ (⟨#[121]⟩ : ByteArray))] rfl (by (try simp only [List.map_toArray, List.map_cons, List.map_nil]); first | done | rfl | (simp only [List.length_drop, List.length_take]; rfl)) ?_; (with_reducible refine (lex_Lex.calls (((⟨#[120, 32]⟩ : ByteArray) ++ ((⟨#[45]⟩ : ByteArray) ++ x5_3)) ++ (⟨#[121]⟩ : ByteArray)) t252 t255 t256 _ ?side1 A28.out).mono ?_); (case side1 => exact Globs.below HG.out (by repeat (first | (with_reducible first | exact HB.out | apply below_alloc | apply pw_below_drewN | apply below_drew1) | exact HB.out))); rintro e w31 ⟨v253, rfl, ho0, hb⟩; refine ⟨_, rfl, ?_⟩; have n0_ := Aside0.mk (Kd.R_lower ho0 (below_size (by repeat (first | (with_reducible first | exact HB.out | apply below_alloc | apply pw_below_drewN | apply below_drew1) | exact HB.out)))); have n1_ := Aside0.mk (below_step (by repeat (first | (with_reducible first | exact HB.out | apply below_alloc | apply pw_below_drewN | apply below_drew1) | exact HB.out)) hb); clear HB; have HO254 := n0_; have HB := n1_; clear n0_ n1_; (try clear hb); (try clear hb2); (try clear hk); (try clear hi); (try clear ho0)) | ((with_reducible refine gate_dst (N := 9) rfl ?_); (try (refine gate_guard (by rfl) ?_; dsimp only)); refine box_event ?hg (N := 9) ?hd (cs := #[.int .i64 0, .int .i64 0]) (t := 25) ?hr ?_; (case hd => rfl); (case hg => rfl); (case hr => first | (go_simp; done) | (go_simp; rfl)); intro gb257 hg w32 hbox hb; have n0_ := Aside0.mk (Kd.R_below (by (with_reducible repeat (first | apply Kd.R_alloc | apply Kd.R_drewN | apply Kd.R_drew)); exact HO254.out) hb); have n1_ := Aside0.mk (below_step (by repeat (first | (with_reducible first | exact HB.out | apply below_alloc | apply pw_below_drewN | apply below_drew1) | exact HB.out)) hb); have n2_ := Aside0.mk (hbox); have n3_ := Aside0.mk ((by rw [hg]; exact (below_size (by repeat (first | (with_reducible first | exact HB.out | apply below_alloc | apply pw_below_drewN | apply below_drew1) | exact HB.out))) : w.heap.size ≤ gb257)); have n4_ := Aside0.mk ((by rw [hg]; exact (below_size (by repeat (first | (with_reducible first | exact HB.out | apply below_alloc | apply pw_below_drewN | apply below_drew1) | exact HB.out))) : w.heap.size ≤ gb257)); clear HO254; clear HB; have HO254 := n0_; have HB := n1_; have BK257 := n2_; have GW257 := n3_; have GE257 := n4_; clear n0_ n1_ n2_ n3_ n4_; clear hb hbox hg; have hcz33_0 : w32.cell? ⟨gb257, 0, none⟩ = some (.int .i64 0) := (blk_cell BK257.out 0).trans rfl; have hcz33_1 : w32.cell? ⟨gb257, 1, none⟩ = some (.int .i64 0) := (blk_cell BK257.out 1).trans rfl; have hfz33_0 := blk_frozen BK257.out 0; have hfz33_1 := blk_frozen BK257.out 1; obtain ⟨Ao34, co34, eo34⟩ := Kd.R_slice HO254.out; subst eo34))
                                    go_ret
                                    exact ⟨by first | rfl | (have h_ := c27; simp only [ByteArray.size_append] at h_; have e0_ : (⟨#[120, 32]⟩ : ByteArray).size = 2 := rfl; have e1_ : (⟨#[45]⟩ : ByteArray).size = 1 := rfl; (have hw_ : ∀ n : Int, -9223372036854775808 ≤ n ∧ n ≤ 9223372036854775807 → wrap64 n = n := fun n h => by unfold wrap64; omega); refine congrArg (fun b_ => Ending.returned (Value.bool b_)) (?_ : (_ : Bool) = _); rw [hw_] <;> omega) | (simp [errW_none, errW_some] <;> rfl) | (simp only [← hji9]; first | rfl | (simp [errW_none, errW_some] <;> rfl)) | (simp [*, errW_none, errW_some] <;> rfl), by repeat (first | (with_reducible first | exact HB.out | apply below_alloc | apply pw_below_drewN | apply below_drew1 | refine below_set ?_ GE257.out) | exact HB.out)⟩
                                  · rw [if_neg c30] at H
                                    have c30b0 : (t255 == 2 && (t256 == 1)) = false := by simpa using c30
                                    (try (have c30b1 : decide (t255 = 2 && (t256 == 1)) = false := by simpa using c30))
                                    (try (have c30b2 : (t255 == 2 && (t256 == 1)) = false := by simpa using c30))
                                    (try (have c30b3 : ¬ (t255 = 2 && (t256 == 1)) := by simpa using c30))
                                    clear c30
                                    obtain rfl := Option.some.inj H
                                    go_wp2_with (first | ((with_reducible refine gate_callee (f := 10) rfl ?_); refine goesL_ (some 55) rfl rfl Tryd.func10 (by kernel_rfl) rfl #[.string (((⟨#[120, 32]⟩ : ByteArray) ++ ((⟨#[45]⟩ : ByteArray) ++ x5_3)) ++ (⟨#[121]⟩ : ByteArray))] rfl (by (try simp only [List.map_toArray, List.map_cons, List.map_nil]); first | done | rfl | (simp only [List.length_drop, List.length_take]; rfl)) ?_; (with_reducible refine (lex_Lex.calls (((⟨#[120, 32]⟩ : ByteArray) ++ ((⟨#[45]⟩ : ByteArray) ++ x5_3)) ++ (⟨#[121]⟩ : ByteArray)) t252 t255 t256 _ ?side1 A28.out).mono ?_); (case side1 => exact Globs.below HG.out (by repeat (first | (with_reducible first | exact HB.out | apply below_alloc | apply pw_below_drewN | apply below_drew1) | exact HB.out))); rintro e w35 ⟨v253, rfl, ho0, hb⟩; refine ⟨_, rfl, ?_⟩; have n0_ := Aside0.mk (Kd.R_lower ho0 (below_size (by repeat (first | (with_reducible first | exact HB.out | apply below_alloc | apply pw_below_drewN | apply below_drew1) | exact HB.out)))); have n1_ := Aside0.mk (below_step (by repeat (first | (with_reducible first | exact HB.out | apply below_alloc | apply pw_below_drewN | apply below_drew1) | exact HB.out)) hb); clear HB; have HO254 := n0_; have HB := n1_; clear n0_ n1_; (try clear hb); (try clear hb2); (try clear hk); (try clear hi); (try clear ho0)) | ((with_reducible refine gate_dst (N := 9) rfl ?_); (try (refine gate_guard (by rfl) ?_; dsimp only)); refine box_event ?hg (N := 9) ?hd (cs := #[.int .i64 0, .int .i64 0]) (t := 25) ?hr ?_; (case hd => rfl); (case hg => rfl); (case hr => first | (go_simp; done) | (go_simp; rfl)); intro gb257 hg w36 hbox hb; have n0_ := Aside0.mk (Kd.R_below (by (with_reducible repeat (first | apply Kd.R_alloc | apply Kd.R_drewN | apply Kd.R_drew)); exact HO254.out) hb); have n1_ := Aside0.mk (below_step (by repeat (first | (with_reducible first | exact HB.out | apply below_alloc | apply pw_below_drewN | apply below_drew1) | exact HB.out)) hb); have n2_ := Aside0.mk (hbox); have n3_ := Aside0.mk ((by rw [hg]; exact (below_size (by repeat (first | (with_reducible first | exact HB.out | apply below_alloc | apply pw_below_drewN | apply below_drew1) | exact HB.out))) : w.heap.size ≤ gb257)); have n4_ := Aside0.mk ((by rw [hg]; exact (below_size (by repeat (first | (with_reducible first | exact HB.out | apply below_alloc | apply pw_below_drewN | apply below_drew1) | exact HB.out))) : w.heap.size ≤ gb257)); clear HO254; clear HB; have HO254 := n0_; have HB := n1_; have BK257 := n2_; have GW257 := n3_; have GE257 := n4_; clear n0_ n1_ n2_ n3_ n4_; clear hb hbox hg; have hcz37_0 : w36.cell? ⟨gb257, 0, none⟩ = some (.int .i64 0) := (blk_cell BK257.out 0).trans rfl; have hcz37_1 : w36.cell? ⟨gb257, 1, none⟩ = some (.int .i64 0) := (blk_cell BK257.out 1).trans rfl; have hfz37_0 := blk_frozen BK257.out 0; have hfz37_1 := blk_frozen BK257.out 1))
                                    go_ret
                                    exact ⟨by first | rfl | (have h_ := c27; simp only [ByteArray.size_append] at h_; have e0_ : (⟨#[120, 32]⟩ : ByteArray).size = 2 := rfl; have e1_ : (⟨#[45]⟩ : ByteArray).size = 1 := rfl; (have hw_ : ∀ n : Int, -9223372036854775808 ≤ n ∧ n ≤ 9223372036854775807 → wrap64 n = n := fun n h => by unfold wrap64; omega); refine congrArg (fun b_ => Ending.returned (Value.bool b_)) (?_ : (_ : Bool) = _); rw [hw_] <;> omega) | (simp [errW_none, errW_some] <;> rfl) | (simp only [← hji9]; first | rfl | (simp [errW_none, errW_some] <;> rfl)) | (simp [*, errW_none, errW_some] <;> rfl), by repeat (first | (with_reducible first | exact HB.out | apply below_alloc | apply pw_below_drewN | apply below_drew1 | refine below_set ?_ GE257.out) | exact HB.out)⟩
                                · rw [if_neg c29] at H
                                  have c29b0 : decide (a0 < (-1099511627776)) = false := decide_eq_false c29
                                  clear c29
                                  by_cases c38 : a0 > 1099511627776
                                  · rw [if_pos c38] at H
                                    have c38b0 : decide (1099511627776 < a0) = true := decide_eq_true c38
                                    clear c38
                                    by_cases c39 : (t255 == 2 && (t256 == 1)) = true
                                    · rw [if_pos c39] at H
                                      have c39b0 : (t255 == 2 && (t256 == 1)) = true := c39
                                      (try (have c39b1 : decide (t255 = 2 && (t256 == 1)) = true := by simpa using c39))
                                      (try (have c39b2 : (t255 == 2 && (t256 == 1)) = true := by simpa using c39))
                                      clear c39
                                      obtain rfl := Option.some.inj H
                                      go_wp2_with (first | ((with_reducible refine gate_callee (f := 10) rfl ?_); refine goesL_ (some 55) rfl rfl Tryd.func10 (by kernel_rfl) rfl #[.string (((⟨#[120, 32]⟩ : ByteArray) ++ ((⟨#[45]⟩ : ByteArray) ++ x5_3)) ++ (⟨#[121]⟩ : ByteArray))] rfl (by (try simp only [List.map_toArray, List.map_cons, List.map_nil]); first | done | rfl | (simp only [List.length_drop, List.length_take]; rfl)) ?_; (with_reducible refine (lex_Lex.calls (((⟨#[120, 32]⟩ : ByteArray) ++ ((⟨#[45]⟩ : ByteArray) ++ x5_3)) ++ (⟨#[121]⟩ : ByteArray)) t252 t255 t256 _ ?side1 A28.out).mono ?_); (case side1 => exact Globs.below HG.out (by repeat (first | (with_reducible first | exact HB.out | apply below_alloc | apply pw_below_drewN | apply below_drew1) | exact HB.out))); rintro e w40 ⟨v253, rfl, ho0, hb⟩; refine ⟨_, rfl, ?_⟩; have n0_ := Aside0.mk (Kd.R_lower ho0 (below_size (by repeat (first | (with_reducible first | exact HB.out | apply below_alloc | apply pw_below_drewN | apply below_drew1) | exact HB.out)))); have n1_ := Aside0.mk (below_step (by repeat (first | (with_reducible first | exact HB.out | apply below_alloc | apply pw_below_drewN | apply below_drew1) | exact HB.out)) hb); clear HB; have HO254 := n0_; have HB := n1_; clear n0_ n1_; (try clear hb); (try clear hb2); (try clear hk); (try clear hi); (try clear ho0)) | ((with_reducible refine gate_dst (N := 9) rfl ?_); (try (refine gate_guard (by rfl) ?_; dsimp only)); refine box_event ?hg (N := 9) ?hd (cs := #[.int .i64 0, .int .i64 0]) (t := 25) ?hr ?_; (case hd => rfl); (case hg => rfl); (case hr => first | (go_simp; done) | (go_simp; rfl)); intro gb257 hg w41 hbox hb; have n0_ := Aside0.mk (Kd.R_below (by (with_reducible repeat (first | apply Kd.R_alloc | apply Kd.R_drewN | apply Kd.R_drew)); exact HO254.out) hb); have n1_ := Aside0.mk (below_step (by repeat (first | (with_reducible first | exact HB.out | apply below_alloc | apply pw_below_drewN | apply below_drew1) | exact HB.out)) hb); have n2_ := Aside0.mk (hbox); have n3_ := Aside0.mk ((by rw [hg]; exact (below_size (by repeat (first | (with_reducible first | exact HB.out | apply below_alloc | apply pw_below_drewN | apply below_drew1) | exact HB.out))) : w.heap.size ≤ gb257)); have n4_ := Aside0.mk ((by rw [hg]; exact (below_size (by repeat (first | (with_reducible first | exact HB.out | apply below_alloc | apply pw_below_drewN | apply below_drew1) | exact HB.out))) : w.heap.size ≤ gb257)); clear HO254; clear HB; have HO254 := n0_; have HB := n1_; have BK257 := n2_; have GW257 := n3_; have GE257 := n4_; clear n0_ n1_ n2_ n3_ n4_; clear hb hbox hg; have hcz42_0 : w41.cell? ⟨gb257, 0, none⟩ = some (.int .i64 0) := (blk_cell BK257.out 0).trans rfl; have hcz42_1 : w41.cell? ⟨gb257, 1, none⟩ = some (.int .i64 0) := (blk_cell BK257.out 1).trans rfl; have hfz42_0 := blk_frozen BK257.out 0; have hfz42_1 := blk_frozen BK257.out 1; obtain ⟨Ao43, co43, eo43⟩ := Kd.R_slice HO254.out; subst eo43))
                                      go_ret
                                      exact ⟨by first | rfl | (have h_ := c27; simp only [ByteArray.size_append] at h_; have e0_ : (⟨#[120, 32]⟩ : ByteArray).size = 2 := rfl; have e1_ : (⟨#[45]⟩ : ByteArray).size = 1 := rfl; (have hw_ : ∀ n : Int, -9223372036854775808 ≤ n ∧ n ≤ 9223372036854775807 → wrap64 n = n := fun n h => by unfold wrap64; omega); refine congrArg (fun b_ => Ending.returned (Value.bool b_)) (?_ : (_ : Bool) = _); rw [hw_] <;> omega) | (simp [errW_none, errW_some] <;> rfl) | (simp only [← hji9]; first | rfl | (simp [errW_none, errW_some] <;> rfl)) | (simp [*, errW_none, errW_some] <;> rfl), by repeat (first | (with_reducible first | exact HB.out | apply below_alloc | apply pw_below_drewN | apply below_drew1 | refine below_set ?_ GE257.out) | exact HB.out)⟩
                                    · rw [if_neg c39] at H
                                      have c39b0 : (t255 == 2 && (t256 == 1)) = false := by simpa using c39
                                      (try (have c39b1 : decide (t255 = 2 && (t256 == 1)) = false := by simpa using c39))
                                      (try (have c39b2 : (t255 == 2 && (t256 == 1)) = false := by simpa using c39))
                                      (try (have c39b3 : ¬ (t255 = 2 && (t256 == 1)) := by simpa using c39))
                                      clear c39
                                      obtain rfl := Option.some.inj H
                                      go_wp2_with (first | ((with_reducible refine gate_callee (f := 10) rfl ?_); refine goesL_ (some 55) rfl rfl Tryd.func10 (by kernel_rfl) rfl #[.string (((⟨#[120, 32]⟩ : ByteArray) ++ ((⟨#[45]⟩ : ByteArray) ++ x5_3)) ++ (⟨#[121]⟩ : ByteArray))] rfl (by (try simp only [List.map_toArray, List.map_cons, List.map_nil]); first | done | rfl | (simp only [List.length_drop, List.length_take]; rfl)) ?_; (with_reducible refine (lex_Lex.calls (((⟨#[120, 32]⟩ : ByteArray) ++ ((⟨#[45]⟩ : ByteArray) ++ x5_3)) ++ (⟨#[121]⟩ : ByteArray)) t252 t255 t256 _ ?side1 A28.out).mono ?_); (case side1 => exact Globs.below HG.out (by repeat (first | (with_reducible first | exact HB.out | apply below_alloc | apply pw_below_drewN | apply below_drew1) | exact HB.out))); rintro e w44 ⟨v253, rfl, ho0, hb⟩; refine ⟨_, rfl, ?_⟩; have n0_ := Aside0.mk (Kd.R_lower ho0 (below_size (by repeat (first | (with_reducible first | exact HB.out | apply below_alloc | apply pw_below_drewN | apply below_drew1) | exact HB.out)))); have n1_ := Aside0.mk (below_step (by repeat (first | (with_reducible first | exact HB.out | apply below_alloc | apply pw_below_drewN | apply below_drew1) | exact HB.out)) hb); clear HB; have HO254 := n0_; have HB := n1_; clear n0_ n1_; (try clear hb); (try clear hb2); (try clear hk); (try clear hi); (try clear ho0)) | ((with_reducible refine gate_dst (N := 9) rfl ?_); (try (refine gate_guard (by rfl) ?_; dsimp only)); refine box_event ?hg (N := 9) ?hd (cs := #[.int .i64 0, .int .i64 0]) (t := 25) ?hr ?_; (case hd => rfl); (case hg => rfl); (case hr => first | (go_simp; done) | (go_simp; rfl)); intro gb257 hg w45 hbox hb; have n0_ := Aside0.mk (Kd.R_below (by (with_reducible repeat (first | apply Kd.R_alloc | apply Kd.R_drewN | apply Kd.R_drew)); exact HO254.out) hb); have n1_ := Aside0.mk (below_step (by repeat (first | (with_reducible first | exact HB.out | apply below_alloc | apply pw_below_drewN | apply below_drew1) | exact HB.out)) hb); have n2_ := Aside0.mk (hbox); have n3_ := Aside0.mk ((by rw [hg]; exact (below_size (by repeat (first | (with_reducible first | exact HB.out | apply below_alloc | apply pw_below_drewN | apply below_drew1) | exact HB.out))) : w.heap.size ≤ gb257)); have n4_ := Aside0.mk ((by rw [hg]; exact (below_size (by repeat (first | (with_reducible first | exact HB.out | apply below_alloc | apply pw_below_drewN | apply below_drew1) | exact HB.out))) : w.heap.size ≤ gb257)); clear HO254; clear HB; have HO254 := n0_; have HB := n1_; have BK257 := n2_; have GW257 := n3_; have GE257 := n4_; clear n0_ n1_ n2_ n3_ n4_; clear hb hbox hg; have hcz46_0 : w45.cell? ⟨gb257, 0, none⟩ = some (.int .i64 0) := (blk_cell BK257.out 0).trans rfl; have hcz46_1 : w45.cell? ⟨gb257, 1, none⟩ = some (.int .i64 0) := (blk_cell BK257.out 1).trans rfl; have hfz46_0 := blk_frozen BK257.out 0; have hfz46_1 := blk_frozen BK257.out 1))
                                      go_ret
                                      exact ⟨by first | rfl | (have h_ := c27; simp only [ByteArray.size_append] at h_; have e0_ : (⟨#[120, 32]⟩ : ByteArray).size = 2 := rfl; have e1_ : (⟨#[45]⟩ : ByteArray).size = 1 := rfl; (have hw_ : ∀ n : Int, -9223372036854775808 ≤ n ∧ n ≤ 9223372036854775807 → wrap64 n = n := fun n h => by unfold wrap64; omega); refine congrArg (fun b_ => Ending.returned (Value.bool b_)) (?_ : (_ : Bool) = _); rw [hw_] <;> omega) | (simp [errW_none, errW_some] <;> rfl) | (simp only [← hji9]; first | rfl | (simp [errW_none, errW_some] <;> rfl)) | (simp [*, errW_none, errW_some] <;> rfl), by repeat (first | (with_reducible first | exact HB.out | apply below_alloc | apply pw_below_drewN | apply below_drew1 | refine below_set ?_ GE257.out) | exact HB.out)⟩
                                  · rw [if_neg c38] at H
                                    have c38b0 : decide (1099511627776 < a0) = false := decide_eq_false c38
                                    clear c38
                                    by_cases c47 : (t255 == 0 && (t256 == 0)) = true
                                    · rw [if_pos c47] at H
                                      have c47b0 : (t255 == 0 && (t256 == 0)) = true := c47
                                      (try (have c47b1 : decide (t255 = 0 && (t256 == 0)) = true := by simpa using c47))
                                      (try (have c47b2 : (t255 == 0 && (t256 == 0)) = true := by simpa using c47))
                                      clear c47
                                      by_cases c48 : (t252.length : Int) = 3
                                      · rw [if_pos c48] at H
                                        have c48b0 : ((t252.length : Int) == 3) = true := beq_iff_eq.mpr c48
                                        have c48b1 : ((t252.length : Int) != 3) = false := bne_eq_false_iff_eq.mpr c48
                                        clear c48
                                        by_cases c49 : 1 < (t252.length : Int)
                                        · rw [if_pos c49] at H
                                          have c49b0 : decide (1 < (t252.length : Int)) = true := decide_eq_true c49
                                          have c49b1 : decide (1 < t252.length) = true := decide_eq_true (by omega)
                                          clear c49
                                          by_cases c50 : (((rd_T35 t252 1).f0) == 3 && (((rd_T35 t252 1).f1) == 2 && ((((rd_T35 t252 1).f2).toList) == (((⟨#[45]⟩ : ByteArray) ++ x5_3).toList) && (((rd_T35 t252 1).f3) == a0)))) = true
                                          · rw [if_pos c50] at H
                                            have c50b0 : (((rd_T35 t252 1).f0) == 3 && (((rd_T35 t252 1).f1) == 2 && ((((rd_T35 t252 1).f2).toList) == (((⟨#[45]⟩ : ByteArray) ++ x5_3).toList) && (((rd_T35 t252 1).f3) == a0)))) = true := c50
                                            (try (have c50b1 : decide (((rd_T35 t252 1).f0) = 3 && (((rd_T35 t252 1).f1) == 2 && ((((rd_T35 t252 1).f2).toList) == (((⟨#[45]⟩ : ByteArray) ++ x5_3).toList) && (((rd_T35 t252 1).f3) == a0)))) = true := by simpa using c50))
                                            (try (have c50b2 : (((rd_T35 t252 1).f0) == 3 && (((rd_T35 t252 1).f1) == 2 && ((((rd_T35 t252 1).f2).toList) == (((⟨#[45]⟩ : ByteArray) ++ x5_3).toList) && (((rd_T35 t252 1).f3) == a0)))) = true := by simpa using c50))
                                            clear c50
                                            by_cases c51 : 2 < (t252.length : Int)
                                            · rw [if_pos c51] at H
                                              have c51b0 : decide (2 < (t252.length : Int)) = true := decide_eq_true c51
                                              have c51b1 : decide (2 < t252.length) = true := decide_eq_true (by omega)
                                              clear c51
                                              obtain rfl := Option.some.inj H
                                              go_wp2_with (first | ((with_reducible refine gate_callee (f := 10) rfl ?_); refine goesL_ (some 55) rfl rfl Tryd.func10 (by kernel_rfl) rfl #[.string (((⟨#[120, 32]⟩ : ByteArray) ++ ((⟨#[45]⟩ : ByteArray) ++ x5_3)) ++ (⟨#[121]⟩ : ByteArray))] rfl (by (try simp only [List.map_toArray, List.map_cons, List.map_nil]); first | done | rfl | (simp only [List.length_drop, List.length_take]; rfl)) ?_; (with_reducible refine (lex_Lex.calls (((⟨#[120, 32]⟩ : ByteArray) ++ ((⟨#[45]⟩ : ByteArray) ++ x5_3)) ++ (⟨#[121]⟩ : ByteArray)) t252 t255 t256 _ ?side1 A28.out).mono ?_); (case side1 => exact Globs.below HG.out (by repeat (first | (with_reducible first | exact HB.out | apply below_alloc | apply pw_below_drewN | apply below_drew1) | exact HB.out))); rintro e w52 ⟨v253, rfl, ho0, hb⟩; refine ⟨_, rfl, ?_⟩; have n0_ := Aside0.mk (Kd.R_lower ho0 (below_size (by repeat (first | (with_reducible first | exact HB.out | apply below_alloc | apply pw_below_drewN | apply below_drew1) | exact HB.out)))); have n1_ := Aside0.mk (below_step (by repeat (first | (with_reducible first | exact HB.out | apply below_alloc | apply pw_below_drewN | apply below_drew1) | exact HB.out)) hb); clear HB; have HO254 := n0_; have HB := n1_; clear n0_ n1_; (try clear hb); (try clear hb2); (try clear hk); (try clear hi); (try clear ho0)) | ((with_reducible refine gate_dst (N := 9) rfl ?_); (try (refine gate_guard (by rfl) ?_; dsimp only)); refine box_event ?hg (N := 9) ?hd (cs := #[.int .i64 0, .int .i64 0]) (t := 25) ?hr ?_; (case hd => rfl); (case hg => rfl); (case hr => first | (go_simp; done) | (go_simp; rfl)); intro gb257 hg w53 hbox hb; have n0_ := Aside0.mk (Kd.R_below (by (with_reducible repeat (first | apply Kd.R_alloc | apply Kd.R_drewN | apply Kd.R_drew)); exact HO254.out) hb); have n1_ := Aside0.mk (below_step (by repeat (first | (with_reducible first | exact HB.out | apply below_alloc | apply pw_below_drewN | apply below_drew1) | exact HB.out)) hb); have n2_ := Aside0.mk (hbox); have n3_ := Aside0.mk ((by rw [hg]; exact (below_size (by repeat (first | (with_reducible first | exact HB.out | apply below_alloc | apply pw_below_drewN | apply below_drew1) | exact HB.out))) : w.heap.size ≤ gb257)); have n4_ := Aside0.mk ((by rw [hg]; exact (below_size (by repeat (first | (with_reducible first | exact HB.out | apply below_alloc | apply pw_below_drewN | apply below_drew1) | exact HB.out))) : w.heap.size ≤ gb257)); clear HO254; clear HB; have HO254 := n0_; have HB := n1_; have BK257 := n2_; have GW257 := n3_; have GE257 := n4_; clear n0_ n1_ n2_ n3_ n4_; clear hb hbox hg; have hcz54_0 : w53.cell? ⟨gb257, 0, none⟩ = some (.int .i64 0) := (blk_cell BK257.out 0).trans rfl; have hcz54_1 : w53.cell? ⟨gb257, 1, none⟩ = some (.int .i64 0) := (blk_cell BK257.out 1).trans rfl; have hfz54_0 := blk_frozen BK257.out 0; have hfz54_1 := blk_frozen BK257.out 1; obtain ⟨Ao55, co55, eo55⟩ := Kd.R_slice HO254.out; subst eo55; have p258 : 0 ≤ (1 : Int) := (by omega); have q258 : 1 < (t252.length : Int) := of_decide_eq_true (by first | (with_reducible assumption) | assumption); obtain ⟨ad258, e258, hx258_0, hx258_1, hx258_2, hx258_3⟩ := at_T35 (Kd.R_reads' HO254.out).2.2 1 p258 q258; cases e258; (try simp only [show (1 : Int).toNat = 1 from rfl, Nat.reduceMul, Nat.reduceEqDiff, Go.Addr.add, ↓reduceIte] at hx258_0); (try simp only [show (1 : Int).toNat = 1 from rfl, Nat.reduceMul, Nat.reduceEqDiff, Go.Addr.add, ↓reduceIte] at hx258_1); (try simp only [show (1 : Int).toNat = 1 from rfl, Nat.reduceMul, Nat.reduceEqDiff, Go.Addr.add, ↓reduceIte] at hx258_2); (try simp only [show (1 : Int).toNat = 1 from rfl, Nat.reduceMul, Nat.reduceEqDiff, Go.Addr.add, ↓reduceIte] at hx258_3); have qi258 : (1 < t252.length) = True := eq_true (by omega); (try rw [show ((1 : Int)).toNat = 1 from rfl] at hx258_0); (try rw [show 1 * 4 = 4 from rfl] at hx258_0); (try rw [show ((1 : Int)).toNat = 1 from rfl] at hx258_1); (try rw [show 1 * 4 = 4 from rfl] at hx258_1); (try rw [show ((1 : Int)).toNat = 1 from rfl] at hx258_2); (try rw [show 1 * 4 = 4 from rfl] at hx258_2); (try rw [show ((1 : Int)).toNat = 1 from rfl] at hx258_3); (try rw [show 1 * 4 = 4 from rfl] at hx258_3); have hn258_0 : ad258.block ≠ gb257 := Kd.own_blk (Kd.R_ne HO254.out BK257.out (by decide)); have hn258_1 : ad258.block ≠ gb257 := Kd.own_blk (Kd.R_ne HO254.out BK257.out (by decide)); replace hx258_0 := (cell_far (p := ⟨gb257, 0, none⟩) (by first | (rw [add_block]; exact hn258_0) | (show (Addr.add _ _).block ≠ _; rw [add_block]; exact hn258_0) | exact hn258_0) (.int .i64 t255)).trans hx258_0; replace hx258_1 := (cell_far (p := ⟨gb257, 0, none⟩) (by first | (rw [add_block]; exact hn258_0) | (show (Addr.add _ _).block ≠ _; rw [add_block]; exact hn258_0) | exact hn258_0) (.int .i64 t255)).trans hx258_1; replace hx258_2 := (cell_far (p := ⟨gb257, 0, none⟩) (by first | (rw [add_block]; exact hn258_0) | (show (Addr.add _ _).block ≠ _; rw [add_block]; exact hn258_0) | exact hn258_0) (.int .i64 t255)).trans hx258_2; replace hx258_3 := (cell_far (p := ⟨gb257, 0, none⟩) (by first | (rw [add_block]; exact hn258_0) | (show (Addr.add _ _).block ≠ _; rw [add_block]; exact hn258_0) | exact hn258_0) (.int .i64 t255)).trans hx258_3; replace hx258_0 := (cell_far (p := ⟨gb257, 1, none⟩) (by first | (rw [add_block]; exact hn258_1) | (show (Addr.add _ _).block ≠ _; rw [add_block]; exact hn258_1) | exact hn258_1) (.int .i64 t256)).trans hx258_0; replace hx258_1 := (cell_far (p := ⟨gb257, 1, none⟩) (by first | (rw [add_block]; exact hn258_1) | (show (Addr.add _ _).block ≠ _; rw [add_block]; exact hn258_1) | exact hn258_1) (.int .i64 t256)).trans hx258_1; replace hx258_2 := (cell_far (p := ⟨gb257, 1, none⟩) (by first | (rw [add_block]; exact hn258_1) | (show (Addr.add _ _).block ≠ _; rw [add_block]; exact hn258_1) | exact hn258_1) (.int .i64 t256)).trans hx258_2; replace hx258_3 := (cell_far (p := ⟨gb257, 1, none⟩) (by first | (rw [add_block]; exact hn258_1) | (show (Addr.add _ _).block ≠ _; rw [add_block]; exact hn258_1) | exact hn258_1) (.int .i64 t256)).trans hx258_3; clear hn258_0; clear hn258_1; replace p258 := eq_true p258; replace q258 := eq_true q258; have p259 : 0 ≤ (2 : Int) := (by omega); have q259 : 2 < (t252.length : Int) := of_decide_eq_true (by first | (with_reducible assumption) | assumption); obtain ⟨ad259, e259, hx259_0, hx259_1, hx259_2, hx259_3⟩ := at_T35 (Kd.R_reads' HO254.out).2.2 2 p259 q259; obtain rfl : ad258 = ad259 := (by injection e259); (try simp only [show (2 : Int).toNat = 2 from rfl, Nat.reduceMul, Nat.reduceEqDiff, Go.Addr.add, ↓reduceIte] at hx259_0); (try simp only [show (2 : Int).toNat = 2 from rfl, Nat.reduceMul, Nat.reduceEqDiff, Go.Addr.add, ↓reduceIte] at hx259_1); (try simp only [show (2 : Int).toNat = 2 from rfl, Nat.reduceMul, Nat.reduceEqDiff, Go.Addr.add, ↓reduceIte] at hx259_2); (try simp only [show (2 : Int).toNat = 2 from rfl, Nat.reduceMul, Nat.reduceEqDiff, Go.Addr.add, ↓reduceIte] at hx259_3); have qi259 : (2 < t252.length) = True := eq_true (by omega); (try rw [show ((2 : Int)).toNat = 2 from rfl] at hx259_0); (try rw [show 2 * 4 = 8 from rfl] at hx259_0); (try rw [show ((2 : Int)).toNat = 2 from rfl] at hx259_1); (try rw [show 2 * 4 = 8 from rfl] at hx259_1); (try rw [show ((2 : Int)).toNat = 2 from rfl] at hx259_2); (try rw [show 2 * 4 = 8 from rfl] at hx259_2); (try rw [show ((2 : Int)).toNat = 2 from rfl] at hx259_3); (try rw [show 2 * 4 = 8 from rfl] at hx259_3); have hn259_0 : ad258.block ≠ gb257 := Kd.own_blk (Kd.R_ne HO254.out BK257.out (by decide)); have hn259_1 : ad258.block ≠ gb257 := Kd.own_blk (Kd.R_ne HO254.out BK257.out (by decide)); replace hx259_0 := (cell_far (p := ⟨gb257, 0, none⟩) (by first | (rw [add_block]; exact hn259_0) | (show (Addr.add _ _).block ≠ _; rw [add_block]; exact hn259_0) | exact hn259_0) (.int .i64 t255)).trans hx259_0; replace hx259_1 := (cell_far (p := ⟨gb257, 0, none⟩) (by first | (rw [add_block]; exact hn259_0) | (show (Addr.add _ _).block ≠ _; rw [add_block]; exact hn259_0) | exact hn259_0) (.int .i64 t255)).trans hx259_1; replace hx259_2 := (cell_far (p := ⟨gb257, 0, none⟩) (by first | (rw [add_block]; exact hn259_0) | (show (Addr.add _ _).block ≠ _; rw [add_block]; exact hn259_0) | exact hn259_0) (.int .i64 t255)).trans hx259_2; replace hx259_3 := (cell_far (p := ⟨gb257, 0, none⟩) (by first | (rw [add_block]; exact hn259_0) | (show (Addr.add _ _).block ≠ _; rw [add_block]; exact hn259_0) | exact hn259_0) (.int .i64 t255)).trans hx259_3; replace hx259_0 := (cell_far (p := ⟨gb257, 1, none⟩) (by first | (rw [add_block]; exact hn259_1) | (show (Addr.add _ _).block ≠ _; rw [add_block]; exact hn259_1) | exact hn259_1) (.int .i64 t256)).trans hx259_0; replace hx259_1 := (cell_far (p := ⟨gb257, 1, none⟩) (by first | (rw [add_block]; exact hn259_1) | (show (Addr.add _ _).block ≠ _; rw [add_block]; exact hn259_1) | exact hn259_1) (.int .i64 t256)).trans hx259_1; replace hx259_2 := (cell_far (p := ⟨gb257, 1, none⟩) (by first | (rw [add_block]; exact hn259_1) | (show (Addr.add _ _).block ≠ _; rw [add_block]; exact hn259_1) | exact hn259_1) (.int .i64 t256)).trans hx259_2; replace hx259_3 := (cell_far (p := ⟨gb257, 1, none⟩) (by first | (rw [add_block]; exact hn259_1) | (show (Addr.add _ _).block ≠ _; rw [add_block]; exact hn259_1) | exact hn259_1) (.int .i64 t256)).trans hx259_3; clear hn259_0; clear hn259_1; replace p259 := eq_true p259; replace q259 := eq_true q259))
                                              go_ret
                                              exact ⟨by first | rfl | (have h_ := c27; simp only [ByteArray.size_append] at h_; have e0_ : (⟨#[120, 32]⟩ : ByteArray).size = 2 := rfl; have e1_ : (⟨#[45]⟩ : ByteArray).size = 1 := rfl; (have hw_ : ∀ n : Int, -9223372036854775808 ≤ n ∧ n ≤ 9223372036854775807 → wrap64 n = n := fun n h => by unfold wrap64; omega); refine congrArg (fun b_ => Ending.returned (Value.bool b_)) (?_ : (_ : Bool) = _); rw [hw_] <;> omega) | (simp [errW_none, errW_some] <;> rfl) | (simp only [← hji9]; first | rfl | (simp [errW_none, errW_some] <;> rfl)) | (simp [*, errW_none, errW_some] <;> rfl), by repeat (first | (with_reducible first | exact HB.out | apply below_alloc | apply pw_below_drewN | apply below_drew1 | refine below_set ?_ GE257.out) | exact HB.out)⟩
                                            · rw [if_neg c51] at H
                                              exact absurd H (by simp)
                                          · rw [if_neg c50] at H
                                            have c50b0 : (((rd_T35 t252 1).f0) == 3 && (((rd_T35 t252 1).f1) == 2 && ((((rd_T35 t252 1).f2).toList) == (((⟨#[45]⟩ : ByteArray) ++ x5_3).toList) && (((rd_T35 t252 1).f3) == a0)))) = false := by simpa using c50
                                            (try (have c50b1 : decide (((rd_T35 t252 1).f0) = 3 && (((rd_T35 t252 1).f1) == 2 && ((((rd_T35 t252 1).f2).toList) == (((⟨#[45]⟩ : ByteArray) ++ x5_3).toList) && (((rd_T35 t252 1).f3) == a0)))) = false := by simpa using c50))
                                            (try (have c50b2 : (((rd_T35 t252 1).f0) == 3 && (((rd_T35 t252 1).f1) == 2 && ((((rd_T35 t252 1).f2).toList) == (((⟨#[45]⟩ : ByteArray) ++ x5_3).toList) && (((rd_T35 t252 1).f3) == a0)))) = false := by simpa using c50))
                                            (try (have c50b3 : ¬ (((rd_T35 t252 1).f0) = 3 && (((rd_T35 t252 1).f1) == 2 && ((((rd_T35 t252 1).f2).toList) == (((⟨#[45]⟩ : ByteArray) ++ x5_3).toList) && (((rd_T35 t252 1).f3) == a0)))) := by simpa using c50))
                                            clear c50
                                            obtain rfl := Option.some.inj H
                                            go_wp2_with (first | ((with_reducible refine gate_callee (f := 10) rfl ?_); refine goesL_ (some 55) rfl rfl Tryd.func10 (by kernel_rfl) rfl #[.string (((⟨#[120, 32]⟩ : ByteArray) ++ ((⟨#[45]⟩ : ByteArray) ++ x5_3)) ++ (⟨#[121]⟩ : ByteArray))] rfl (by (try simp only [List.map_toArray, List.map_cons, List.map_nil]); first | done | rfl | (simp only [List.length_drop, List.length_take]; rfl)) ?_; (with_reducible refine (lex_Lex.calls (((⟨#[120, 32]⟩ : ByteArray) ++ ((⟨#[45]⟩ : ByteArray) ++ x5_3)) ++ (⟨#[121]⟩ : ByteArray)) t252 t255 t256 _ ?side1 A28.out).mono ?_); (case side1 => exact Globs.below HG.out (by repeat (first | (with_reducible first | exact HB.out | apply below_alloc | apply pw_below_drewN | apply below_drew1) | exact HB.out))); rintro e w56 ⟨v253, rfl, ho0, hb⟩; refine ⟨_, rfl, ?_⟩; have n0_ := Aside0.mk (Kd.R_lower ho0 (below_size (by repeat (first | (with_reducible first | exact HB.out | apply below_alloc | apply pw_below_drewN | apply below_drew1) | exact HB.out)))); have n1_ := Aside0.mk (below_step (by repeat (first | (with_reducible first | exact HB.out | apply below_alloc | apply pw_below_drewN | apply below_drew1) | exact HB.out)) hb); clear HB; have HO254 := n0_; have HB := n1_; clear n0_ n1_; (try clear hb); (try clear hb2); (try clear hk); (try clear hi); (try clear ho0)) | ((with_reducible refine gate_dst (N := 9) rfl ?_); (try (refine gate_guard (by rfl) ?_; dsimp only)); refine box_event ?hg (N := 9) ?hd (cs := #[.int .i64 0, .int .i64 0]) (t := 25) ?hr ?_; (case hd => rfl); (case hg => rfl); (case hr => first | (go_simp; done) | (go_simp; rfl)); intro gb257 hg w57 hbox hb; have n0_ := Aside0.mk (Kd.R_below (by (with_reducible repeat (first | apply Kd.R_alloc | apply Kd.R_drewN | apply Kd.R_drew)); exact HO254.out) hb); have n1_ := Aside0.mk (below_step (by repeat (first | (with_reducible first | exact HB.out | apply below_alloc | apply pw_below_drewN | apply below_drew1) | exact HB.out)) hb); have n2_ := Aside0.mk (hbox); have n3_ := Aside0.mk ((by rw [hg]; exact (below_size (by repeat (first | (with_reducible first | exact HB.out | apply below_alloc | apply pw_below_drewN | apply below_drew1) | exact HB.out))) : w.heap.size ≤ gb257)); have n4_ := Aside0.mk ((by rw [hg]; exact (below_size (by repeat (first | (with_reducible first | exact HB.out | apply below_alloc | apply pw_below_drewN | apply below_drew1) | exact HB.out))) : w.heap.size ≤ gb257)); clear HO254; clear HB; have HO254 := n0_; have HB := n1_; have BK257 := n2_; have GW257 := n3_; have GE257 := n4_; clear n0_ n1_ n2_ n3_ n4_; clear hb hbox hg; have hcz58_0 : w57.cell? ⟨gb257, 0, none⟩ = some (.int .i64 0) := (blk_cell BK257.out 0).trans rfl; have hcz58_1 : w57.cell? ⟨gb257, 1, none⟩ = some (.int .i64 0) := (blk_cell BK257.out 1).trans rfl; have hfz58_0 := blk_frozen BK257.out 0; have hfz58_1 := blk_frozen BK257.out 1; obtain ⟨Ao59, co59, eo59⟩ := Kd.R_slice HO254.out; subst eo59; have p258 : 0 ≤ (1 : Int) := (by omega); have q258 : 1 < (t252.length : Int) := of_decide_eq_true (by first | (with_reducible assumption) | assumption); obtain ⟨ad258, e258, hx258_0, hx258_1, hx258_2, hx258_3⟩ := at_T35 (Kd.R_reads' HO254.out).2.2 1 p258 q258; cases e258; (try simp only [show (1 : Int).toNat = 1 from rfl, Nat.reduceMul, Nat.reduceEqDiff, Go.Addr.add, ↓reduceIte] at hx258_0); (try simp only [show (1 : Int).toNat = 1 from rfl, Nat.reduceMul, Nat.reduceEqDiff, Go.Addr.add, ↓reduceIte] at hx258_1); (try simp only [show (1 : Int).toNat = 1 from rfl, Nat.reduceMul, Nat.reduceEqDiff, Go.Addr.add, ↓reduceIte] at hx258_2); (try simp only [show (1 : Int).toNat = 1 from rfl, Nat.reduceMul, Nat.reduceEqDiff, Go.Addr.add, ↓reduceIte] at hx258_3); have qi258 : (1 < t252.length) = True := eq_true (by omega); (try rw [show ((1 : Int)).toNat = 1 from rfl] at hx258_0); (try rw [show 1 * 4 = 4 from rfl] at hx258_0); (try rw [show ((1 : Int)).toNat = 1 from rfl] at hx258_1); (try rw [show 1 * 4 = 4 from rfl] at hx258_1); (try rw [show ((1 : Int)).toNat = 1 from rfl] at hx258_2); (try rw [show 1 * 4 = 4 from rfl] at hx258_2); (try rw [show ((1 : Int)).toNat = 1 from rfl] at hx258_3); (try rw [show 1 * 4 = 4 from rfl] at hx258_3); have hn258_0 : ad258.block ≠ gb257 := Kd.own_blk (Kd.R_ne HO254.out BK257.out (by decide)); have hn258_1 : ad258.block ≠ gb257 := Kd.own_blk (Kd.R_ne HO254.out BK257.out (by decide)); replace hx258_0 := (cell_far (p := ⟨gb257, 0, none⟩) (by first | (rw [add_block]; exact hn258_0) | (show (Addr.add _ _).block ≠ _; rw [add_block]; exact hn258_0) | exact hn258_0) (.int .i64 t255)).trans hx258_0; replace hx258_1 := (cell_far (p := ⟨gb257, 0, none⟩) (by first | (rw [add_block]; exact hn258_0) | (show (Addr.add _ _).block ≠ _; rw [add_block]; exact hn258_0) | exact hn258_0) (.int .i64 t255)).trans hx258_1; replace hx258_2 := (cell_far (p := ⟨gb257, 0, none⟩) (by first | (rw [add_block]; exact hn258_0) | (show (Addr.add _ _).block ≠ _; rw [add_block]; exact hn258_0) | exact hn258_0) (.int .i64 t255)).trans hx258_2; replace hx258_3 := (cell_far (p := ⟨gb257, 0, none⟩) (by first | (rw [add_block]; exact hn258_0) | (show (Addr.add _ _).block ≠ _; rw [add_block]; exact hn258_0) | exact hn258_0) (.int .i64 t255)).trans hx258_3; replace hx258_0 := (cell_far (p := ⟨gb257, 1, none⟩) (by first | (rw [add_block]; exact hn258_1) | (show (Addr.add _ _).block ≠ _; rw [add_block]; exact hn258_1) | exact hn258_1) (.int .i64 t256)).trans hx258_0; replace hx258_1 := (cell_far (p := ⟨gb257, 1, none⟩) (by first | (rw [add_block]; exact hn258_1) | (show (Addr.add _ _).block ≠ _; rw [add_block]; exact hn258_1) | exact hn258_1) (.int .i64 t256)).trans hx258_1; replace hx258_2 := (cell_far (p := ⟨gb257, 1, none⟩) (by first | (rw [add_block]; exact hn258_1) | (show (Addr.add _ _).block ≠ _; rw [add_block]; exact hn258_1) | exact hn258_1) (.int .i64 t256)).trans hx258_2; replace hx258_3 := (cell_far (p := ⟨gb257, 1, none⟩) (by first | (rw [add_block]; exact hn258_1) | (show (Addr.add _ _).block ≠ _; rw [add_block]; exact hn258_1) | exact hn258_1) (.int .i64 t256)).trans hx258_3; clear hn258_0; clear hn258_1; replace p258 := eq_true p258; replace q258 := eq_true q258))
                                            go_ret
                                            exact ⟨by first | rfl | (have h_ := c27; simp only [ByteArray.size_append] at h_; have e0_ : (⟨#[120, 32]⟩ : ByteArray).size = 2 := rfl; have e1_ : (⟨#[45]⟩ : ByteArray).size = 1 := rfl; (have hw_ : ∀ n : Int, -9223372036854775808 ≤ n ∧ n ≤ 9223372036854775807 → wrap64 n = n := fun n h => by unfold wrap64; omega); refine congrArg (fun b_ => Ending.returned (Value.bool b_)) (?_ : (_ : Bool) = _); rw [hw_] <;> omega) | (simp [errW_none, errW_some] <;> rfl) | (simp only [← hji9]; first | rfl | (simp [errW_none, errW_some] <;> rfl)) | (simp [*, errW_none, errW_some] <;> rfl), by repeat (first | (with_reducible first | exact HB.out | apply below_alloc | apply pw_below_drewN | apply below_drew1 | refine below_set ?_ GE257.out) | exact HB.out)⟩
                                        · rw [if_neg c49] at H
                                          exact absurd H (by simp)
                                      · rw [if_neg c48] at H
                                        have c48b0 : ((t252.length : Int) == 3) = false := beq_eq_false_iff_ne.mpr c48
                                        have c48b1 : ((t252.length : Int) != 3) = true := bne_iff_ne.mpr c48
                                        obtain rfl := Option.some.inj H
                                        go_wp2_with (first | ((with_reducible refine gate_callee (f := 10) rfl ?_); refine goesL_ (some 55) rfl rfl Tryd.func10 (by kernel_rfl) rfl #[.string (((⟨#[120, 32]⟩ : ByteArray) ++ ((⟨#[45]⟩ : ByteArray) ++ x5_3)) ++ (⟨#[121]⟩ : ByteArray))] rfl (by (try simp only [List.map_toArray, List.map_cons, List.map_nil]); first | done | rfl | (simp only [List.length_drop, List.length_take]; rfl)) ?_; (with_reducible refine (lex_Lex.calls (((⟨#[120, 32]⟩ : ByteArray) ++ ((⟨#[45]⟩ : ByteArray) ++ x5_3)) ++ (⟨#[121]⟩ : ByteArray)) t252 t255 t256 _ ?side1 A28.out).mono ?_); (case side1 => exact Globs.below HG.out (by repeat (first | (with_reducible first | exact HB.out | apply below_alloc | apply pw_below_drewN | apply below_drew1) | exact HB.out))); rintro e w60 ⟨v253, rfl, ho0, hb⟩; refine ⟨_, rfl, ?_⟩; have n0_ := Aside0.mk (Kd.R_lower ho0 (below_size (by repeat (first | (with_reducible first | exact HB.out | apply below_alloc | apply pw_below_drewN | apply below_drew1) | exact HB.out)))); have n1_ := Aside0.mk (below_step (by repeat (first | (with_reducible first | exact HB.out | apply below_alloc | apply pw_below_drewN | apply below_drew1) | exact HB.out)) hb); clear HB; have HO254 := n0_; have HB := n1_; clear n0_ n1_; (try clear hb); (try clear hb2); (try clear hk); (try clear hi); (try clear ho0)) | ((with_reducible refine gate_dst (N := 9) rfl ?_); (try (refine gate_guard (by rfl) ?_; dsimp only)); refine box_event ?hg (N := 9) ?hd (cs := #[.int .i64 0, .int .i64 0]) (t := 25) ?hr ?_; (case hd => rfl); (case hg => rfl); (case hr => first | (go_simp; done) | (go_simp; rfl)); intro gb257 hg w61 hbox hb; have n0_ := Aside0.mk (Kd.R_below (by (with_reducible repeat (first | apply Kd.R_alloc | apply Kd.R_drewN | apply Kd.R_drew)); exact HO254.out) hb); have n1_ := Aside0.mk (below_step (by repeat (first | (with_reducible first | exact HB.out | apply below_alloc | apply pw_below_drewN | apply below_drew1) | exact HB.out)) hb); have n2_ := Aside0.mk (hbox); have n3_ := Aside0.mk ((by rw [hg]; exact (below_size (by repeat (first | (with_reducible first | exact HB.out | apply below_alloc | apply pw_below_drewN | apply below_drew1) | exact HB.out))) : w.heap.size ≤ gb257)); have n4_ := Aside0.mk ((by rw [hg]; exact (below_size (by repeat (first | (with_reducible first | exact HB.out | apply below_alloc | apply pw_below_drewN | apply below_drew1) | exact HB.out))) : w.heap.size ≤ gb257)); clear HO254; clear HB; have HO254 := n0_; have HB := n1_; have BK257 := n2_; have GW257 := n3_; have GE257 := n4_; clear n0_ n1_ n2_ n3_ n4_; clear hb hbox hg; have hcz62_0 : w61.cell? ⟨gb257, 0, none⟩ = some (.int .i64 0) := (blk_cell BK257.out 0).trans rfl; have hcz62_1 : w61.cell? ⟨gb257, 1, none⟩ = some (.int .i64 0) := (blk_cell BK257.out 1).trans rfl; have hfz62_0 := blk_frozen BK257.out 0; have hfz62_1 := blk_frozen BK257.out 1; obtain ⟨Ao63, co63, eo63⟩ := Kd.R_slice HO254.out; subst eo63))
                                        go_ret
                                        exact ⟨by first | rfl | (have h_ := c27; simp only [ByteArray.size_append] at h_; have e0_ : (⟨#[120, 32]⟩ : ByteArray).size = 2 := rfl; have e1_ : (⟨#[45]⟩ : ByteArray).size = 1 := rfl; (have hw_ : ∀ n : Int, -9223372036854775808 ≤ n ∧ n ≤ 9223372036854775807 → wrap64 n = n := fun n h => by unfold wrap64; omega); refine congrArg (fun b_ => Ending.returned (Value.bool b_)) (?_ : (_ : Bool) = _); rw [hw_] <;> omega) | (simp [errW_none, errW_some] <;> rfl) | (simp only [← hji9]; first | rfl | (simp [errW_none, errW_some] <;> rfl)) | (simp [*, errW_none, errW_some] <;> rfl), by repeat (first | (with_reducible first | exact HB.out | apply below_alloc | apply pw_below_drewN | apply below_drew1 | refine below_set ?_ GE257.out) | exact HB.out)⟩
                                    · rw [if_neg c47] at H
                                      have c47b0 : (t255 == 0 && (t256 == 0)) = false := by simpa using c47
                                      (try (have c47b1 : decide (t255 = 0 && (t256 == 0)) = false := by simpa using c47))
                                      (try (have c47b2 : (t255 == 0 && (t256 == 0)) = false := by simpa using c47))
                                      (try (have c47b3 : ¬ (t255 = 0 && (t256 == 0)) := by simpa using c47))
                                      clear c47
                                      obtain rfl := Option.some.inj H
                                      go_wp2_with (first | ((with_reducible refine gate_callee (f := 10) rfl ?_); refine goesL_ (some 55) rfl rfl Tryd.func10 (by kernel_rfl) rfl #[.string (((⟨#[120, 32]⟩ : ByteArray) ++ ((⟨#[45]⟩ : ByteArray) ++ x5_3)) ++ (⟨#[121]⟩ : ByteArray))] rfl (by (try simp only [List.map_toArray, List.map_cons, List.map_nil]); first | done | rfl | (simp only [List.length_drop, List.length_take]; rfl)) ?_; (with_reducible refine (lex_Lex.calls (((⟨#[120, 32]⟩ : ByteArray) ++ ((⟨#[45]⟩ : ByteArray) ++ x5_3)) ++ (⟨#[121]⟩ : ByteArray)) t252 t255 t256 _ ?side1 A28.out).mono ?_); (case side1 => exact Globs.below HG.out (by repeat (first | (with_reducible first | exact HB.out | apply below_alloc | apply pw_below_drewN | apply below_drew1) | exact HB.out))); rintro e w64 ⟨v253, rfl, ho0, hb⟩; refine ⟨_, rfl, ?_⟩; have n0_ := Aside0.mk (Kd.R_lower ho0 (below_size (by repeat (first | (with_reducible first | exact HB.out | apply below_alloc | apply pw_below_drewN | apply below_drew1) | exact HB.out)))); have n1_ := Aside0.mk (below_step (by repeat (first | (with_reducible first | exact HB.out | apply below_alloc | apply pw_below_drewN | apply below_drew1) | exact HB.out)) hb); clear HB; have HO254 := n0_; have HB := n1_; clear n0_ n1_; (try clear hb); (try clear hb2); (try clear hk); (try clear hi); (try clear ho0)) | ((with_reducible refine gate_dst (N := 9) rfl ?_); (try (refine gate_guard (by rfl) ?_; dsimp only)); refine box_event ?hg (N := 9) ?hd (cs := #[.int .i64 0, .int .i64 0]) (t := 25) ?hr ?_; (case hd => rfl); (case hg => rfl); (case hr => first | (go_simp; done) | (go_simp; rfl)); intro gb257 hg w65 hbox hb; have n0_ := Aside0.mk (Kd.R_below (by (with_reducible repeat (first | apply Kd.R_alloc | apply Kd.R_drewN | apply Kd.R_drew)); exact HO254.out) hb); have n1_ := Aside0.mk (below_step (by repeat (first | (with_reducible first | exact HB.out | apply below_alloc | apply pw_below_drewN | apply below_drew1) | exact HB.out)) hb); have n2_ := Aside0.mk (hbox); have n3_ := Aside0.mk ((by rw [hg]; exact (below_size (by repeat (first | (with_reducible first | exact HB.out | apply below_alloc | apply pw_below_drewN | apply below_drew1) | exact HB.out))) : w.heap.size ≤ gb257)); have n4_ := Aside0.mk ((by rw [hg]; exact (below_size (by repeat (first | (with_reducible first | exact HB.out | apply below_alloc | apply pw_below_drewN | apply below_drew1) | exact HB.out))) : w.heap.size ≤ gb257)); clear HO254; clear HB; have HO254 := n0_; have HB := n1_; have BK257 := n2_; have GW257 := n3_; have GE257 := n4_; clear n0_ n1_ n2_ n3_ n4_; clear hb hbox hg; have hcz66_0 : w65.cell? ⟨gb257, 0, none⟩ = some (.int .i64 0) := (blk_cell BK257.out 0).trans rfl; have hcz66_1 : w65.cell? ⟨gb257, 1, none⟩ = some (.int .i64 0) := (blk_cell BK257.out 1).trans rfl; have hfz66_0 := blk_frozen BK257.out 0; have hfz66_1 := blk_frozen BK257.out 1))
                                      go_ret
                                      exact ⟨by first | rfl | (have h_ := c27; simp only [ByteArray.size_append] at h_; have e0_ : (⟨#[120, 32]⟩ : ByteArray).size = 2 := rfl; have e1_ : (⟨#[45]⟩ : ByteArray).size = 1 := rfl; (have hw_ : ∀ n : Int, -9223372036854775808 ≤ n ∧ n ≤ 9223372036854775807 → wrap64 n = n := fun n h => by unfold wrap64; omega); refine congrArg (fun b_ => Ending.returned (Value.bool b_)) (?_ : (_ : Bool) = _); rw [hw_] <;> omega) | (simp [errW_none, errW_some] <;> rfl) | (simp only [← hji9]; first | rfl | (simp [errW_none, errW_some] <;> rfl)) | (simp [*, errW_none, errW_some] <;> rfl), by repeat (first | (with_reducible first | exact HB.out | apply below_alloc | apply pw_below_drewN | apply below_drew1 | refine below_set ?_ GE257.out) | exact HB.out)⟩
                              · rw [if_neg c27] at H
                                exact absurd H (by simp)
                            · rw [if_neg c26] at H
                              exact absurd H (by simp)
                          · rw [if_neg c25] at H
                            exact absurd H (by simp)
                        · rw [if_neg c24] at H
                          have c24b0 : decide (a0 < 0) = false := decide_eq_false c24
                          clear c24
                          by_cases c67 : 2 + x5_3.size ≤ 9223372036854775807
                          · rw [if_pos c67] at H
                            have c67b0 := eq_true c67
                            have c67b1 : decide (2 + x5_3.size ≤ 9223372036854775807) = true := decide_eq_true c67
                            try have c67b2 : (9223372036854775807 < 2 + x5_3.size) = False := eq_false (Nat.not_lt.2 c67)
                            by_cases c68 : ((⟨#[120, 32]⟩ : ByteArray) ++ x5_3).size + 1 ≤ 9223372036854775807
                            · rw [if_pos c68] at H
                              have c68b0 := eq_true c68
                              have c68b1 : decide (((⟨#[120, 32]⟩ : ByteArray) ++ x5_3).size + 1 ≤ 9223372036854775807) = true := decide_eq_true c68
                              try have c68b2 : (9223372036854775807 < ((⟨#[120, 32]⟩ : ByteArray) ++ x5_3).size + 1) = False := eq_false (Nat.not_lt.2 c68)
                              try have c68b8 : (9223372036854775807 < (2 + x5_3.size) + 1) = False := eq_false (by have h_ := of_decide_eq_true c68b1; simp only [ByteArray.size_append] at h_; have e0_ : (⟨#[120, 32]⟩ : ByteArray).size = 2 := rfl; omega)
                              replace H := Option.bind_eq_some_iff.mp H
                              obtain ⟨⟨t260, t263, t264⟩, A690, H⟩ := H
                              replace H : (if a0 < (-1099511627776) then (if (t263 == 2 && (t264 == 1)) = true then (some ((t260.length : Int) == 0)) else (some false)) else (if a0 > 1099511627776 then (if (t263 == 2 && (t264 == 1)) = true then (some ((t260.length : Int) == 0)) else (some false)) else (if (t263 == 0 && (t264 == 0)) = true then (if (t260.length : Int) = 3 then (if 1 < (t260.length : Int) then (if (((rd_T35 t260 1).f0) == 3 && (((rd_T35 t260 1).f1) == 2 && ((((rd_T35 t260 1).f2).toList) == x5_3.toList && (((rd_T35 t260 1).f3) == a0)))) = true then (if 2 < (t260.length : Int) then (some (((rd_T35 t260 2).f0) == 1 && (((rd_T35 t260 2).f1) == (wrap64 (2 + (x5_3.size : Int))) && ((((rd_T35 t260 2).f2).toList) == ([121] : List UInt8) && (((rd_T35 t260 2).f3) == 0))))) else (none)) else (some false)) else (none)) else (some false)) else (some false)))) = some r := H
                              have A69 := Aside0.mk A690
                              clear A690
                              by_cases c70 : a0 < (-1099511627776)
                              · rw [if_pos c70] at H
                                have c70b0 : decide (a0 < (-1099511627776)) = true := decide_eq_true c70
                                clear c70
                                by_cases c71 : (t263 == 2 && (t264 == 1)) = true
                                · rw [if_pos c71] at H
                                  have c71b0 : (t263 == 2 && (t264 == 1)) = true := c71
                                  (try (have c71b1 : decide (t263 = 2 && (t264 == 1)) = true := by simpa using c71))
                                  (try (have c71b2 : (t263 == 2 && (t264 == 1)) = true := by simpa using c71))
                                  clear c71
                                  obtain rfl := Option.some.inj H
                                  go_wp2_with (first | ((with_reducible refine gate_callee (f := 10) rfl ?_); refine goesL_ (some 55) rfl rfl Tryd.func10 (by kernel_rfl) rfl #[.string (((⟨#[120, 32]⟩ : ByteArray) ++ x5_3) ++ (⟨#[121]⟩ : ByteArray))] rfl (by (try simp only [List.map_toArray, List.map_cons, List.map_nil]); first | done | rfl | (simp only [List.length_drop, List.length_take]; rfl)) ?_; (with_reducible refine (lex_Lex.calls (((⟨#[120, 32]⟩ : ByteArray) ++ x5_3) ++ (⟨#[121]⟩ : ByteArray)) t260 t263 t264 _ ?side1 A69.out).mono ?_); (case side1 => exact Globs.below HG.out (by repeat (first | (with_reducible first | exact HB.out | apply below_alloc | apply pw_below_drewN | apply below_drew1) | exact HB.out))); rintro e w72 ⟨v261, rfl, ho0, hb⟩; refine ⟨_, rfl, ?_⟩; have n0_ := Aside0.mk (Kd.R_lower ho0 (below_size (by repeat (first | (with_reducible first | exact HB.out | apply below_alloc | apply pw_below_drewN | apply below_drew1) | exact HB.out)))); have n1_ := Aside0.mk (below_step (by repeat (first | (with_reducible first | exact HB.out | apply below_alloc | apply pw_below_drewN | apply below_drew1) | exact HB.out)) hb); clear HB; have HO262 := n0_; have HB := n1_; clear n0_ n1_; (try clear hb); (try clear hb2); (try clear hk); (try clear hi); (try clear ho0)) | ((with_reducible refine gate_dst (N := 9) rfl ?_); (try (refine gate_guard (by rfl) ?_; dsimp only)); refine box_event ?hg (N := 9) ?hd (cs := #[.int .i64 0, .int .i64 0]) (t := 25) ?hr ?_; (case hd => rfl); (case hg => rfl); (case hr => first | (go_simp; done) | (go_simp; rfl)); intro gb265 hg w73 hbox hb; have n0_ := Aside0.mk (Kd.R_below (by (with_reducible repeat (first | apply Kd.R_alloc | apply Kd.R_drewN | apply Kd.R_drew)); exact HO262.out) hb); have n1_ := Aside0.mk (below_step (by repeat (first | (with_reducible first | exact HB.out | apply below_alloc | apply pw_below_drewN | apply below_drew1) | exact HB.out)) hb); have n2_ := Aside0.mk (hbox); have n3_ := Aside0.mk ((by rw [hg]; exact (below_size (by repeat (first | (with_reducible first | exact HB.out | apply below_alloc | apply pw_below_drewN | apply below_drew1) | exact HB.out))) : w.heap.size ≤ gb265)); have n4_ := Aside0.mk ((by rw [hg]; exact (below_size (by repeat (first | (with_reducible first | exact HB.out | apply below_alloc | apply pw_below_drewN | apply below_drew1) | exact HB.out))) : w.heap.size ≤ gb265)); clear HO262; clear HB; have HO262 := n0_; have HB := n1_; have BK265 := n2_; have GW265 := n3_; have GE265 := n4_; clear n0_ n1_ n2_ n3_ n4_; clear hb hbox hg; have hcz74_0 : w73.cell? ⟨gb265, 0, none⟩ = some (.int .i64 0) := (blk_cell BK265.out 0).trans rfl; have hcz74_1 : w73.cell? ⟨gb265, 1, none⟩ = some (.int .i64 0) := (blk_cell BK265.out 1).trans rfl; have hfz74_0 := blk_frozen BK265.out 0; have hfz74_1 := blk_frozen BK265.out 1; obtain ⟨Ao75, co75, eo75⟩ := Kd.R_slice HO262.out; subst eo75))
                                  go_ret
                                  exact ⟨by first | rfl | (have h_ := c68; simp only [ByteArray.size_append] at h_; have e0_ : (⟨#[120, 32]⟩ : ByteArray).size = 2 := rfl; (have hw_ : ∀ n : Int, -9223372036854775808 ≤ n ∧ n ≤ 9223372036854775807 → wrap64 n = n := fun n h => by unfold wrap64; omega); refine congrArg (fun b_ => Ending.returned (Value.bool b_)) (?_ : (_ : Bool) = _); rw [hw_] <;> omega) | (simp [errW_none, errW_some] <;> rfl) | (simp only [← hji9]; first | rfl | (simp [errW_none, errW_some] <;> rfl)) | (simp [*, errW_none, errW_some] <;> rfl), by repeat (first | (with_reducible first | exact HB.out | apply below_alloc | apply pw_below_drewN | apply below_drew1 | refine below_set ?_ GE265.out) | exact HB.out)⟩
                                · rw [if_neg c71] at H
                                  have c71b0 : (t263 == 2 && (t264 == 1)) = false := by simpa using c71
                                  (try (have c71b1 : decide (t263 = 2 && (t264 == 1)) = false := by simpa using c71))
                                  (try (have c71b2 : (t263 == 2 && (t264 == 1)) = false := by simpa using c71))
                                  (try (have c71b3 : ¬ (t263 = 2 && (t264 == 1)) := by simpa using c71))
                                  clear c71
                                  obtain rfl := Option.some.inj H
                                  go_wp2_with (first | ((with_reducible refine gate_callee (f := 10) rfl ?_); refine goesL_ (some 55) rfl rfl Tryd.func10 (by kernel_rfl) rfl #[.string (((⟨#[120, 32]⟩ : ByteArray) ++ x5_3) ++ (⟨#[121]⟩ : ByteArray))] rfl (by (try simp only [List.map_toArray, List.map_cons, List.map_nil]); first | done | rfl | (simp only [List.length_drop, List.length_take]; rfl)) ?_; (with_reducible refine (lex_Lex.calls (((⟨#[120, 32]⟩ : ByteArray) ++ x5_3) ++ (⟨#[121]⟩ : ByteArray)) t260 t263 t264 _ ?side1 A69.out).mono ?_); (case side1 => exact Globs.below HG.out (by repeat (first | (with_reducible first | exact HB.out | apply below_alloc | apply pw_below_drewN | apply below_drew1) | exact HB.out))); rintro e w76 ⟨v261, rfl, ho0, hb⟩; refine ⟨_, rfl, ?_⟩; have n0_ := Aside0.mk (Kd.R_lower ho0 (below_size (by repeat (first | (with_reducible first | exact HB.out | apply below_alloc | apply pw_below_drewN | apply below_drew1) | exact HB.out)))); have n1_ := Aside0.mk (below_step (by repeat (first | (with_reducible first | exact HB.out | apply below_alloc | apply pw_below_drewN | apply below_drew1) | exact HB.out)) hb); clear HB; have HO262 := n0_; have HB := n1_; clear n0_ n1_; (try clear hb); (try clear hb2); (try clear hk); (try clear hi); (try clear ho0)) | ((with_reducible refine gate_dst (N := 9) rfl ?_); (try (refine gate_guard (by rfl) ?_; dsimp only)); refine box_event ?hg (N := 9) ?hd (cs := #[.int .i64 0, .int .i64 0]) (t := 25) ?hr ?_; (case hd => rfl); (case hg => rfl); (case hr => first | (go_simp; done) | (go_simp; rfl)); intro gb265 hg w77 hbox hb; have n0_ := Aside0.mk (Kd.R_below (by (with_reducible repeat (first | apply Kd.R_alloc | apply Kd.R_drewN | apply Kd.R_drew)); exact HO262.out) hb); have n1_ := Aside0.mk (below_step (by repeat (first | (with_reducible first | exact HB.out | apply below_alloc | apply pw_below_drewN | apply below_drew1) | exact HB.out)) hb); have n2_ := Aside0.mk (hbox); have n3_ := Aside0.mk ((by rw [hg]; exact (below_size (by repeat (first | (with_reducible first | exact HB.out | apply below_alloc | apply pw_below_drewN | apply below_drew1) | exact HB.out))) : w.heap.size ≤ gb265)); have n4_ := Aside0.mk ((by rw [hg]; exact (below_size (by repeat (first | (with_reducible first | exact HB.out | apply below_alloc | apply pw_below_drewN | apply below_drew1) | exact HB.out))) : w.heap.size ≤ gb265)); clear HO262; clear HB; have HO262 := n0_; have HB := n1_; have BK265 := n2_; have GW265 := n3_; have GE265 := n4_; clear n0_ n1_ n2_ n3_ n4_; clear hb hbox hg; have hcz78_0 : w77.cell? ⟨gb265, 0, none⟩ = some (.int .i64 0) := (blk_cell BK265.out 0).trans rfl; have hcz78_1 : w77.cell? ⟨gb265, 1, none⟩ = some (.int .i64 0) := (blk_cell BK265.out 1).trans rfl; have hfz78_0 := blk_frozen BK265.out 0; have hfz78_1 := blk_frozen BK265.out 1))
                                  go_ret
                                  exact ⟨by first | rfl | (have h_ := c68; simp only [ByteArray.size_append] at h_; have e0_ : (⟨#[120, 32]⟩ : ByteArray).size = 2 := rfl; (have hw_ : ∀ n : Int, -9223372036854775808 ≤ n ∧ n ≤ 9223372036854775807 → wrap64 n = n := fun n h => by unfold wrap64; omega); refine congrArg (fun b_ => Ending.returned (Value.bool b_)) (?_ : (_ : Bool) = _); rw [hw_] <;> omega) | (simp [errW_none, errW_some] <;> rfl) | (simp only [← hji9]; first | rfl | (simp [errW_none, errW_some] <;> rfl)) | (simp [*, errW_none, errW_some] <;> rfl), by repeat (first | (with_reducible first | exact HB.out | apply below_alloc | apply pw_below_drewN | apply below_drew1 | refine below_set ?_ GE265.out) | exact HB.out)⟩
                              · rw [if_neg c70] at H
                                have c70b0 : decide (a0 < (-1099511627776)) = false := decide_eq_false c70
                                clear c70
                                by_cases c79 : a0 > 1099511627776
                                · rw [if_pos c79] at H
                                  have c79b0 : decide (1099511627776 < a0) = true := decide_eq_true c79
                                  clear c79
                                  by_cases c80 : (t263 == 2 && (t264 == 1)) = true
                                  · rw [if_pos c80] at H
                                    have c80b0 : (t263 == 2 && (t264 == 1)) = true := c80
                                    (try (have c80b1 : decide (t263 = 2 && (t264 == 1)) = true := by simpa using c80))
                                    (try (have c80b2 : (t263 == 2 && (t264 == 1)) = true := by simpa using c80))
                                    clear c80
                                    obtain rfl := Option.some.inj H
                                    go_wp2_with (first | ((with_reducible refine gate_callee (f := 10) rfl ?_); refine goesL_ (some 55) rfl rfl Tryd.func10 (by kernel_rfl) rfl #[.string (((⟨#[120, 32]⟩ : ByteArray) ++ x5_3) ++ (⟨#[121]⟩ : ByteArray))] rfl (by (try simp only [List.map_toArray, List.map_cons, List.map_nil]); first | done | rfl | (simp only [List.length_drop, List.length_take]; rfl)) ?_; (with_reducible refine (lex_Lex.calls (((⟨#[120, 32]⟩ : ByteArray) ++ x5_3) ++ (⟨#[121]⟩ : ByteArray)) t260 t263 t264 _ ?side1 A69.out).mono ?_); (case side1 => exact Globs.below HG.out (by repeat (first | (with_reducible first | exact HB.out | apply below_alloc | apply pw_below_drewN | apply below_drew1) | exact HB.out))); rintro e w81 ⟨v261, rfl, ho0, hb⟩; refine ⟨_, rfl, ?_⟩; have n0_ := Aside0.mk (Kd.R_lower ho0 (below_size (by repeat (first | (with_reducible first | exact HB.out | apply below_alloc | apply pw_below_drewN | apply below_drew1) | exact HB.out)))); have n1_ := Aside0.mk (below_step (by repeat (first | (with_reducible first | exact HB.out | apply below_alloc | apply pw_below_drewN | apply below_drew1) | exact HB.out)) hb); clear HB; have HO262 := n0_; have HB := n1_; clear n0_ n1_; (try clear hb); (try clear hb2); (try clear hk); (try clear hi); (try clear ho0)) | ((with_reducible refine gate_dst (N := 9) rfl ?_); (try (refine gate_guard (by rfl) ?_; dsimp only)); refine box_event ?hg (N := 9) ?hd (cs := #[.int .i64 0, .int .i64 0]) (t := 25) ?hr ?_; (case hd => rfl); (case hg => rfl); (case hr => first | (go_simp; done) | (go_simp; rfl)); intro gb265 hg w82 hbox hb; have n0_ := Aside0.mk (Kd.R_below (by (with_reducible repeat (first | apply Kd.R_alloc | apply Kd.R_drewN | apply Kd.R_drew)); exact HO262.out) hb); have n1_ := Aside0.mk (below_step (by repeat (first | (with_reducible first | exact HB.out | apply below_alloc | apply pw_below_drewN | apply below_drew1) | exact HB.out)) hb); have n2_ := Aside0.mk (hbox); have n3_ := Aside0.mk ((by rw [hg]; exact (below_size (by repeat (first | (with_reducible first | exact HB.out | apply below_alloc | apply pw_below_drewN | apply below_drew1) | exact HB.out))) : w.heap.size ≤ gb265)); have n4_ := Aside0.mk ((by rw [hg]; exact (below_size (by repeat (first | (with_reducible first | exact HB.out | apply below_alloc | apply pw_below_drewN | apply below_drew1) | exact HB.out))) : w.heap.size ≤ gb265)); clear HO262; clear HB; have HO262 := n0_; have HB := n1_; have BK265 := n2_; have GW265 := n3_; have GE265 := n4_; clear n0_ n1_ n2_ n3_ n4_; clear hb hbox hg; have hcz83_0 : w82.cell? ⟨gb265, 0, none⟩ = some (.int .i64 0) := (blk_cell BK265.out 0).trans rfl; have hcz83_1 : w82.cell? ⟨gb265, 1, none⟩ = some (.int .i64 0) := (blk_cell BK265.out 1).trans rfl; have hfz83_0 := blk_frozen BK265.out 0; have hfz83_1 := blk_frozen BK265.out 1; obtain ⟨Ao84, co84, eo84⟩ := Kd.R_slice HO262.out; subst eo84))
                                    go_ret
                                    exact ⟨by first | rfl | (have h_ := c68; simp only [ByteArray.size_append] at h_; have e0_ : (⟨#[120, 32]⟩ : ByteArray).size = 2 := rfl; (have hw_ : ∀ n : Int, -9223372036854775808 ≤ n ∧ n ≤ 9223372036854775807 → wrap64 n = n := fun n h => by unfold wrap64; omega); refine congrArg (fun b_ => Ending.returned (Value.bool b_)) (?_ : (_ : Bool) = _); rw [hw_] <;> omega) | (simp [errW_none, errW_some] <;> rfl) | (simp only [← hji9]; first | rfl | (simp [errW_none, errW_some] <;> rfl)) | (simp [*, errW_none, errW_some] <;> rfl), by repeat (first | (with_reducible first | exact HB.out | apply below_alloc | apply pw_below_drewN | apply below_drew1 | refine below_set ?_ GE265.out) | exact HB.out)⟩
                                  · rw [if_neg c80] at H
                                    have c80b0 : (t263 == 2 && (t264 == 1)) = false := by simpa using c80
                                    (try (have c80b1 : decide (t263 = 2 && (t264 == 1)) = false := by simpa using c80))
                                    (try (have c80b2 : (t263 == 2 && (t264 == 1)) = false := by simpa using c80))
                                    (try (have c80b3 : ¬ (t263 = 2 && (t264 == 1)) := by simpa using c80))
                                    clear c80
                                    obtain rfl := Option.some.inj H
                                    go_wp2_with (first | ((with_reducible refine gate_callee (f := 10) rfl ?_); refine goesL_ (some 55) rfl rfl Tryd.func10 (by kernel_rfl) rfl #[.string (((⟨#[120, 32]⟩ : ByteArray) ++ x5_3) ++ (⟨#[121]⟩ : ByteArray))] rfl (by (try simp only [List.map_toArray, List.map_cons, List.map_nil]); first | done | rfl | (simp only [List.length_drop, List.length_take]; rfl)) ?_; (with_reducible refine (lex_Lex.calls (((⟨#[120, 32]⟩ : ByteArray) ++ x5_3) ++ (⟨#[121]⟩ : ByteArray)) t260 t263 t264 _ ?side1 A69.out).mono ?_); (case side1 => exact Globs.below HG.out (by repeat (first | (with_reducible first | exact HB.out | apply below_alloc | apply pw_below_drewN | apply below_drew1) | exact HB.out))); rintro e w85 ⟨v261, rfl, ho0, hb⟩; refine ⟨_, rfl, ?_⟩; have n0_ := Aside0.mk (Kd.R_lower ho0 (below_size (by repeat (first | (with_reducible first | exact HB.out | apply below_alloc | apply pw_below_drewN | apply below_drew1) | exact HB.out)))); have n1_ := Aside0.mk (below_step (by repeat (first | (with_reducible first | exact HB.out | apply below_alloc | apply pw_below_drewN | apply below_drew1) | exact HB.out)) hb); clear HB; have HO262 := n0_; have HB := n1_; clear n0_ n1_; (try clear hb); (try clear hb2); (try clear hk); (try clear hi); (try clear ho0)) | ((with_reducible refine gate_dst (N := 9) rfl ?_); (try (refine gate_guard (by rfl) ?_; dsimp only)); refine box_event ?hg (N := 9) ?hd (cs := #[.int .i64 0, .int .i64 0]) (t := 25) ?hr ?_; (case hd => rfl); (case hg => rfl); (case hr => first | (go_simp; done) | (go_simp; rfl)); intro gb265 hg w86 hbox hb; have n0_ := Aside0.mk (Kd.R_below (by (with_reducible repeat (first | apply Kd.R_alloc | apply Kd.R_drewN | apply Kd.R_drew)); exact HO262.out) hb); have n1_ := Aside0.mk (below_step (by repeat (first | (with_reducible first | exact HB.out | apply below_alloc | apply pw_below_drewN | apply below_drew1) | exact HB.out)) hb); have n2_ := Aside0.mk (hbox); have n3_ := Aside0.mk ((by rw [hg]; exact (below_size (by repeat (first | (with_reducible first | exact HB.out | apply below_alloc | apply pw_below_drewN | apply below_drew1) | exact HB.out))) : w.heap.size ≤ gb265)); have n4_ := Aside0.mk ((by rw [hg]; exact (below_size (by repeat (first | (with_reducible first | exact HB.out | apply below_alloc | apply pw_below_drewN | apply below_drew1) | exact HB.out))) : w.heap.size ≤ gb265)); clear HO262; clear HB; have HO262 := n0_; have HB := n1_; have BK265 := n2_; have GW265 := n3_; have GE265 := n4_; clear n0_ n1_ n2_ n3_ n4_; clear hb hbox hg; have hcz87_0 : w86.cell? ⟨gb265, 0, none⟩ = some (.int .i64 0) := (blk_cell BK265.out 0).trans rfl; have hcz87_1 : w86.cell? ⟨gb265, 1, none⟩ = some (.int .i64 0) := (blk_cell BK265.out 1).trans rfl; have hfz87_0 := blk_frozen BK265.out 0; have hfz87_1 := blk_frozen BK265.out 1))
                                    go_ret
                                    exact ⟨by first | rfl | (have h_ := c68; simp only [ByteArray.size_append] at h_; have e0_ : (⟨#[120, 32]⟩ : ByteArray).size = 2 := rfl; (have hw_ : ∀ n : Int, -9223372036854775808 ≤ n ∧ n ≤ 9223372036854775807 → wrap64 n = n := fun n h => by unfold wrap64; omega); refine congrArg (fun b_ => Ending.returned (Value.bool b_)) (?_ : (_ : Bool) = _); rw [hw_] <;> omega) | (simp [errW_none, errW_some] <;> rfl) | (simp only [← hji9]; first | rfl | (simp [errW_none, errW_some] <;> rfl)) | (simp [*, errW_none, errW_some] <;> rfl), by repeat (first | (with_reducible first | exact HB.out | apply below_alloc | apply pw_below_drewN | apply below_drew1 | refine below_set ?_ GE265.out) | exact HB.out)⟩
                                · rw [if_neg c79] at H
                                  have c79b0 : decide (1099511627776 < a0) = false := decide_eq_false c79
                                  clear c79
                                  by_cases c88 : (t263 == 0 && (t264 == 0)) = true
                                  · rw [if_pos c88] at H
                                    have c88b0 : (t263 == 0 && (t264 == 0)) = true := c88
                                    (try (have c88b1 : decide (t263 = 0 && (t264 == 0)) = true := by simpa using c88))
                                    (try (have c88b2 : (t263 == 0 && (t264 == 0)) = true := by simpa using c88))
                                    clear c88
                                    by_cases c89 : (t260.length : Int) = 3
                                    · rw [if_pos c89] at H
                                      have c89b0 : ((t260.length : Int) == 3) = true := beq_iff_eq.mpr c89
                                      have c89b1 : ((t260.length : Int) != 3) = false := bne_eq_false_iff_eq.mpr c89
                                      clear c89
                                      by_cases c90 : 1 < (t260.length : Int)
                                      · rw [if_pos c90] at H
                                        have c90b0 : decide (1 < (t260.length : Int)) = true := decide_eq_true c90
                                        have c90b1 : decide (1 < t260.length) = true := decide_eq_true (by omega)
                                        clear c90
                                        by_cases c91 : (((rd_T35 t260 1).f0) == 3 && (((rd_T35 t260 1).f1) == 2 && ((((rd_T35 t260 1).f2).toList) == x5_3.toList && (((rd_T35 t260 1).f3) == a0)))) = true
                                        · rw [if_pos c91] at H
                                          have c91b0 : (((rd_T35 t260 1).f0) == 3 && (((rd_T35 t260 1).f1) == 2 && ((((rd_T35 t260 1).f2).toList) == x5_3.toList && (((rd_T35 t260 1).f3) == a0)))) = true := c91
                                          (try (have c91b1 : decide (((rd_T35 t260 1).f0) = 3 && (((rd_T35 t260 1).f1) == 2 && ((((rd_T35 t260 1).f2).toList) == x5_3.toList && (((rd_T35 t260 1).f3) == a0)))) = true := by simpa using c91))
                                          (try (have c91b2 : (((rd_T35 t260 1).f0) == 3 && (((rd_T35 t260 1).f1) == 2 && ((((rd_T35 t260 1).f2).toList) == x5_3.toList && (((rd_T35 t260 1).f3) == a0)))) = true := by simpa using c91))
                                          clear c91
                                          by_cases c92 : 2 < (t260.length : Int)
                                          · rw [if_pos c92] at H
                                            have c92b0 : decide (2 < (t260.length : Int)) = true := decide_eq_true c92
                                            have c92b1 : decide (2 < t260.length) = true := decide_eq_true (by omega)
                                            clear c92
                                            obtain rfl := Option.some.inj H
                                            go_wp2_with (first | ((with_reducible refine gate_callee (f := 10) rfl ?_); refine goesL_ (some 55) rfl rfl Tryd.func10 (by kernel_rfl) rfl #[.string (((⟨#[120, 32]⟩ : ByteArray) ++ x5_3) ++ (⟨#[121]⟩ : ByteArray))] rfl (by (try simp only [List.map_toArray, List.map_cons, List.map_nil]); first | done | rfl | (simp only [List.length_drop, List.length_take]; rfl)) ?_; (with_reducible refine (lex_Lex.calls (((⟨#[120, 32]⟩ : ByteArray) ++ x5_3) ++ (⟨#[121]⟩ : ByteArray)) t260 t263 t264 _ ?side1 A69.out).mono ?_); (case side1 => exact Globs.below HG.out (by repeat (first | (with_reducible first | exact HB.out | apply below_alloc | apply pw_below_drewN | apply below_drew1) | exact HB.out))); rintro e w93 ⟨v261, rfl, ho0, hb⟩; refine ⟨_, rfl, ?_⟩; have n0_ := Aside0.mk (Kd.R_lower ho0 (below_size (by repeat (first | (with_reducible first | exact HB.out | apply below_alloc | apply pw_below_drewN | apply below_drew1) | exact HB.out)))); have n1_ := Aside0.mk (below_step (by repeat (first | (with_reducible first | exact HB.out | apply below_alloc | apply pw_below_drewN | apply below_drew1) | exact HB.out)) hb); clear HB; have HO262 := n0_; have HB := n1_; clear n0_ n1_; (try clear hb); (try clear hb2); (try clear hk); (try clear hi); (try clear ho0)) | ((with_reducible refine gate_dst (N := 9) rfl ?_); (try (refine gate_guard (by rfl) ?_; dsimp only)); refine box_event ?hg (N := 9) ?hd (cs := #[.int .i64 0, .int .i64 0]) (t := 25) ?hr ?_; (case hd => rfl); (case hg => rfl); (case hr => first | (go_simp; done) | (go_simp; rfl)); intro gb265 hg w94 hbox hb; have n0_ := Aside0.mk (Kd.R_below (by (with_reducible repeat (first | apply Kd.R_alloc | apply Kd.R_drewN | apply Kd.R_drew)); exact HO262.out) hb); have n1_ := Aside0.mk (below_step (by repeat (first | (with_reducible first | exact HB.out | apply below_alloc | apply pw_below_drewN | apply below_drew1) | exact HB.out)) hb); have n2_ := Aside0.mk (hbox); have n3_ := Aside0.mk ((by rw [hg]; exact (below_size (by repeat (first | (with_reducible first | exact HB.out | apply below_alloc | apply pw_below_drewN | apply below_drew1) | exact HB.out))) : w.heap.size ≤ gb265)); have n4_ := Aside0.mk ((by rw [hg]; exact (below_size (by repeat (first | (with_reducible first | exact HB.out | apply below_alloc | apply pw_below_drewN | apply below_drew1) | exact HB.out))) : w.heap.size ≤ gb265)); clear HO262; clear HB; have HO262 := n0_; have HB := n1_; have BK265 := n2_; have GW265 := n3_; have GE265 := n4_; clear n0_ n1_ n2_ n3_ n4_; clear hb hbox hg; have hcz95_0 : w94.cell? ⟨gb265, 0, none⟩ = some (.int .i64 0) := (blk_cell BK265.out 0).trans rfl; have hcz95_1 : w94.cell? ⟨gb265, 1, none⟩ = some (.int .i64 0) := (blk_cell BK265.out 1).trans rfl; have hfz95_0 := blk_frozen BK265.out 0; have hfz95_1 := blk_frozen BK265.out 1; obtain ⟨Ao96, co96, eo96⟩ := Kd.R_slice HO262.out; subst eo96; have p266 : 0 ≤ (1 : Int) := (by omega); have q266 : 1 < (t260.length : Int) := of_decide_eq_true (by first | (with_reducible assumption) | assumption); obtain ⟨ad266, e266, hx266_0, hx266_1, hx266_2, hx266_3⟩ := at_T35 (Kd.R_reads' HO262.out).2.2 1 p266 q266; cases e266; (try simp only [show (1 : Int).toNat = 1 from rfl, Nat.reduceMul, Nat.reduceEqDiff, Go.Addr.add, ↓reduceIte] at hx266_0); (try simp only [show (1 : Int).toNat = 1 from rfl, Nat.reduceMul, Nat.reduceEqDiff, Go.Addr.add, ↓reduceIte] at hx266_1); (try simp only [show (1 : Int).toNat = 1 from rfl, Nat.reduceMul, Nat.reduceEqDiff, Go.Addr.add, ↓reduceIte] at hx266_2); (try simp only [show (1 : Int).toNat = 1 from rfl, Nat.reduceMul, Nat.reduceEqDiff, Go.Addr.add, ↓reduceIte] at hx266_3); have qi266 : (1 < t260.length) = True := eq_true (by omega); (try rw [show ((1 : Int)).toNat = 1 from rfl] at hx266_0); (try rw [show 1 * 4 = 4 from rfl] at hx266_0); (try rw [show ((1 : Int)).toNat = 1 from rfl] at hx266_1); (try rw [show 1 * 4 = 4 from rfl] at hx266_1); (try rw [show ((1 : Int)).toNat = 1 from rfl] at hx266_2); (try rw [show 1 * 4 = 4 from rfl] at hx266_2); (try rw [show ((1 : Int)).toNat = 1 from rfl] at hx266_3); (try rw [show 1 * 4 = 4 from rfl] at hx266_3); have hn266_0 : ad266.block ≠ gb265 := Kd.own_blk (Kd.R_ne HO262.out BK265.out (by decide)); have hn266_1 : ad266.block ≠ gb265 := Kd.own_blk (Kd.R_ne HO262.out BK265.out (by decide)); replace hx266_0 := (cell_far (p := ⟨gb265, 0, none⟩) (by first | (rw [add_block]; exact hn266_0) | (show (Addr.add _ _).block ≠ _; rw [add_block]; exact hn266_0) | exact hn266_0) (.int .i64 t263)).trans hx266_0; replace hx266_1 := (cell_far (p := ⟨gb265, 0, none⟩) (by first | (rw [add_block]; exact hn266_0) | (show (Addr.add _ _).block ≠ _; rw [add_block]; exact hn266_0) | exact hn266_0) (.int .i64 t263)).trans hx266_1; replace hx266_2 := (cell_far (p := ⟨gb265, 0, none⟩) (by first | (rw [add_block]; exact hn266_0) | (show (Addr.add _ _).block ≠ _; rw [add_block]; exact hn266_0) | exact hn266_0) (.int .i64 t263)).trans hx266_2; replace hx266_3 := (cell_far (p := ⟨gb265, 0, none⟩) (by first | (rw [add_block]; exact hn266_0) | (show (Addr.add _ _).block ≠ _; rw [add_block]; exact hn266_0) | exact hn266_0) (.int .i64 t263)).trans hx266_3; replace hx266_0 := (cell_far (p := ⟨gb265, 1, none⟩) (by first | (rw [add_block]; exact hn266_1) | (show (Addr.add _ _).block ≠ _; rw [add_block]; exact hn266_1) | exact hn266_1) (.int .i64 t264)).trans hx266_0; replace hx266_1 := (cell_far (p := ⟨gb265, 1, none⟩) (by first | (rw [add_block]; exact hn266_1) | (show (Addr.add _ _).block ≠ _; rw [add_block]; exact hn266_1) | exact hn266_1) (.int .i64 t264)).trans hx266_1; replace hx266_2 := (cell_far (p := ⟨gb265, 1, none⟩) (by first | (rw [add_block]; exact hn266_1) | (show (Addr.add _ _).block ≠ _; rw [add_block]; exact hn266_1) | exact hn266_1) (.int .i64 t264)).trans hx266_2; replace hx266_3 := (cell_far (p := ⟨gb265, 1, none⟩) (by first | (rw [add_block]; exact hn266_1) | (show (Addr.add _ _).block ≠ _; rw [add_block]; exact hn266_1) | exact hn266_1) (.int .i64 t264)).trans hx266_3; clear hn266_0; clear hn266_1; replace p266 := eq_true p266; replace q266 := eq_true q266; have p267 : 0 ≤ (2 : Int) := (by omega); have q267 : 2 < (t260.length : Int) := of_decide_eq_true (by first | (with_reducible assumption) | assumption); obtain ⟨ad267, e267, hx267_0, hx267_1, hx267_2, hx267_3⟩ := at_T35 (Kd.R_reads' HO262.out).2.2 2 p267 q267; obtain rfl : ad266 = ad267 := (by injection e267); (try simp only [show (2 : Int).toNat = 2 from rfl, Nat.reduceMul, Nat.reduceEqDiff, Go.Addr.add, ↓reduceIte] at hx267_0); (try simp only [show (2 : Int).toNat = 2 from rfl, Nat.reduceMul, Nat.reduceEqDiff, Go.Addr.add, ↓reduceIte] at hx267_1); (try simp only [show (2 : Int).toNat = 2 from rfl, Nat.reduceMul, Nat.reduceEqDiff, Go.Addr.add, ↓reduceIte] at hx267_2); (try simp only [show (2 : Int).toNat = 2 from rfl, Nat.reduceMul, Nat.reduceEqDiff, Go.Addr.add, ↓reduceIte] at hx267_3); have qi267 : (2 < t260.length) = True := eq_true (by omega); (try rw [show ((2 : Int)).toNat = 2 from rfl] at hx267_0); (try rw [show 2 * 4 = 8 from rfl] at hx267_0); (try rw [show ((2 : Int)).toNat = 2 from rfl] at hx267_1); (try rw [show 2 * 4 = 8 from rfl] at hx267_1); (try rw [show ((2 : Int)).toNat = 2 from rfl] at hx267_2); (try rw [show 2 * 4 = 8 from rfl] at hx267_2); (try rw [show ((2 : Int)).toNat = 2 from rfl] at hx267_3); (try rw [show 2 * 4 = 8 from rfl] at hx267_3); have hn267_0 : ad266.block ≠ gb265 := Kd.own_blk (Kd.R_ne HO262.out BK265.out (by decide)); have hn267_1 : ad266.block ≠ gb265 := Kd.own_blk (Kd.R_ne HO262.out BK265.out (by decide)); replace hx267_0 := (cell_far (p := ⟨gb265, 0, none⟩) (by first | (rw [add_block]; exact hn267_0) | (show (Addr.add _ _).block ≠ _; rw [add_block]; exact hn267_0) | exact hn267_0) (.int .i64 t263)).trans hx267_0; replace hx267_1 := (cell_far (p := ⟨gb265, 0, none⟩) (by first | (rw [add_block]; exact hn267_0) | (show (Addr.add _ _).block ≠ _; rw [add_block]; exact hn267_0) | exact hn267_0) (.int .i64 t263)).trans hx267_1; replace hx267_2 := (cell_far (p := ⟨gb265, 0, none⟩) (by first | (rw [add_block]; exact hn267_0) | (show (Addr.add _ _).block ≠ _; rw [add_block]; exact hn267_0) | exact hn267_0) (.int .i64 t263)).trans hx267_2; replace hx267_3 := (cell_far (p := ⟨gb265, 0, none⟩) (by first | (rw [add_block]; exact hn267_0) | (show (Addr.add _ _).block ≠ _; rw [add_block]; exact hn267_0) | exact hn267_0) (.int .i64 t263)).trans hx267_3; replace hx267_0 := (cell_far (p := ⟨gb265, 1, none⟩) (by first | (rw [add_block]; exact hn267_1) | (show (Addr.add _ _).block ≠ _; rw [add_block]; exact hn267_1) | exact hn267_1) (.int .i64 t264)).trans hx267_0; replace hx267_1 := (cell_far (p := ⟨gb265, 1, none⟩) (by first | (rw [add_block]; exact hn267_1) | (show (Addr.add _ _).block ≠ _; rw [add_block]; exact hn267_1) | exact hn267_1) (.int .i64 t264)).trans hx267_1; replace hx267_2 := (cell_far (p := ⟨gb265, 1, none⟩) (by first | (rw [add_block]; exact hn267_1) | (show (Addr.add _ _).block ≠ _; rw [add_block]; exact hn267_1) | exact hn267_1) (.int .i64 t264)).trans hx267_2; replace hx267_3 := (cell_far (p := ⟨gb265, 1, none⟩) (by first | (rw [add_block]; exact hn267_1) | (show (Addr.add _ _).block ≠ _; rw [add_block]; exact hn267_1) | exact hn267_1) (.int .i64 t264)).trans hx267_3; clear hn267_0; clear hn267_1; replace p267 := eq_true p267; replace q267 := eq_true q267))
                                            go_ret
                                            exact ⟨by first | rfl | (have h_ := c68; simp only [ByteArray.size_append] at h_; have e0_ : (⟨#[120, 32]⟩ : ByteArray).size = 2 := rfl; (have hw_ : ∀ n : Int, -9223372036854775808 ≤ n ∧ n ≤ 9223372036854775807 → wrap64 n = n := fun n h => by unfold wrap64; omega); refine congrArg (fun b_ => Ending.returned (Value.bool b_)) (?_ : (_ : Bool) = _); rw [hw_] <;> omega) | (simp [errW_none, errW_some] <;> rfl) | (simp only [← hji9]; first | rfl | (simp [errW_none, errW_some] <;> rfl)) | (simp [*, errW_none, errW_some] <;> rfl), by repeat (first | (with_reducible first | exact HB.out | apply below_alloc | apply pw_below_drewN | apply below_drew1 | refine below_set ?_ GE265.out) | exact HB.out)⟩
                                          · rw [if_neg c92] at H
                                            exact absurd H (by simp)
                                        · rw [if_neg c91] at H
                                          have c91b0 : (((rd_T35 t260 1).f0) == 3 && (((rd_T35 t260 1).f1) == 2 && ((((rd_T35 t260 1).f2).toList) == x5_3.toList && (((rd_T35 t260 1).f3) == a0)))) = false := by simpa using c91
                                          (try (have c91b1 : decide (((rd_T35 t260 1).f0) = 3 && (((rd_T35 t260 1).f1) == 2 && ((((rd_T35 t260 1).f2).toList) == x5_3.toList && (((rd_T35 t260 1).f3) == a0)))) = false := by simpa using c91))
                                          (try (have c91b2 : (((rd_T35 t260 1).f0) == 3 && (((rd_T35 t260 1).f1) == 2 && ((((rd_T35 t260 1).f2).toList) == x5_3.toList && (((rd_T35 t260 1).f3) == a0)))) = false := by simpa using c91))
                                          (try (have c91b3 : ¬ (((rd_T35 t260 1).f0) = 3 && (((rd_T35 t260 1).f1) == 2 && ((((rd_T35 t260 1).f2).toList) == x5_3.toList && (((rd_T35 t260 1).f3) == a0)))) := by simpa using c91))
                                          clear c91
                                          obtain rfl := Option.some.inj H
                                          go_wp2_with (first | ((with_reducible refine gate_callee (f := 10) rfl ?_); refine goesL_ (some 55) rfl rfl Tryd.func10 (by kernel_rfl) rfl #[.string (((⟨#[120, 32]⟩ : ByteArray) ++ x5_3) ++ (⟨#[121]⟩ : ByteArray))] rfl (by (try simp only [List.map_toArray, List.map_cons, List.map_nil]); first | done | rfl | (simp only [List.length_drop, List.length_take]; rfl)) ?_; (with_reducible refine (lex_Lex.calls (((⟨#[120, 32]⟩ : ByteArray) ++ x5_3) ++ (⟨#[121]⟩ : ByteArray)) t260 t263 t264 _ ?side1 A69.out).mono ?_); (case side1 => exact Globs.below HG.out (by repeat (first | (with_reducible first | exact HB.out | apply below_alloc | apply pw_below_drewN | apply below_drew1) | exact HB.out))); rintro e w97 ⟨v261, rfl, ho0, hb⟩; refine ⟨_, rfl, ?_⟩; have n0_ := Aside0.mk (Kd.R_lower ho0 (below_size (by repeat (first | (with_reducible first | exact HB.out | apply below_alloc | apply pw_below_drewN | apply below_drew1) | exact HB.out)))); have n1_ := Aside0.mk (below_step (by repeat (first | (with_reducible first | exact HB.out | apply below_alloc | apply pw_below_drewN | apply below_drew1) | exact HB.out)) hb); clear HB; have HO262 := n0_; have HB := n1_; clear n0_ n1_; (try clear hb); (try clear hb2); (try clear hk); (try clear hi); (try clear ho0)) | ((with_reducible refine gate_dst (N := 9) rfl ?_); (try (refine gate_guard (by rfl) ?_; dsimp only)); refine box_event ?hg (N := 9) ?hd (cs := #[.int .i64 0, .int .i64 0]) (t := 25) ?hr ?_; (case hd => rfl); (case hg => rfl); (case hr => first | (go_simp; done) | (go_simp; rfl)); intro gb265 hg w98 hbox hb; have n0_ := Aside0.mk (Kd.R_below (by (with_reducible repeat (first | apply Kd.R_alloc | apply Kd.R_drewN | apply Kd.R_drew)); exact HO262.out) hb); have n1_ := Aside0.mk (below_step (by repeat (first | (with_reducible first | exact HB.out | apply below_alloc | apply pw_below_drewN | apply below_drew1) | exact HB.out)) hb); have n2_ := Aside0.mk (hbox); have n3_ := Aside0.mk ((by rw [hg]; exact (below_size (by repeat (first | (with_reducible first | exact HB.out | apply below_alloc | apply pw_below_drewN | apply below_drew1) | exact HB.out))) : w.heap.size ≤ gb265)); have n4_ := Aside0.mk ((by rw [hg]; exact (below_size (by repeat (first | (with_reducible first | exact HB.out | apply below_alloc | apply pw_below_drewN | apply below_drew1) | exact HB.out))) : w.heap.size ≤ gb265)); clear HO262; clear HB; have HO262 := n0_; have HB := n1_; have BK265 := n2_; have GW265 := n3_; have GE265 := n4_; clear n0_ n1_ n2_ n3_ n4_; clear hb hbox hg; have hcz99_0 : w98.cell? ⟨gb265, 0, none⟩ = some (.int .i64 0) := (blk_cell BK265.out 0).trans rfl; have hcz99_1 : w98.cell? ⟨gb265, 1, none⟩ = some (.int .i64 0) := (blk_cell BK265.out 1).trans rfl; have hfz99_0 := blk_frozen BK265.out 0; have hfz99_1 := blk_frozen BK265.out 1; obtain ⟨Ao100, co100, eo100⟩ := Kd.R_slice HO262.out; subst eo100; have p266 : 0 ≤ (1 : Int) := (by omega); have q266 : 1 < (t260.length : Int) := of_decide_eq_true (by first | (with_reducible assumption) | assumption); obtain ⟨ad266, e266, hx266_0, hx266_1, hx266_2, hx266_3⟩ := at_T35 (Kd.R_reads' HO262.out).2.2 1 p266 q266; cases e266; (try simp only [show (1 : Int).toNat = 1 from rfl, Nat.reduceMul, Nat.reduceEqDiff, Go.Addr.add, ↓reduceIte] at hx266_0); (try simp only [show (1 : Int).toNat = 1 from rfl, Nat.reduceMul, Nat.reduceEqDiff, Go.Addr.add, ↓reduceIte] at hx266_1); (try simp only [show (1 : Int).toNat = 1 from rfl, Nat.reduceMul, Nat.reduceEqDiff, Go.Addr.add, ↓reduceIte] at hx266_2); (try simp only [show (1 : Int).toNat = 1 from rfl, Nat.reduceMul, Nat.reduceEqDiff, Go.Addr.add, ↓reduceIte] at hx266_3); have qi266 : (1 < t260.length) = True := eq_true (by omega); (try rw [show ((1 : Int)).toNat = 1 from rfl] at hx266_0); (try rw [show 1 * 4 = 4 from rfl] at hx266_0); (try rw [show ((1 : Int)).toNat = 1 from rfl] at hx266_1); (try rw [show 1 * 4 = 4 from rfl] at hx266_1); (try rw [show ((1 : Int)).toNat = 1 from rfl] at hx266_2); (try rw [show 1 * 4 = 4 from rfl] at hx266_2); (try rw [show ((1 : Int)).toNat = 1 from rfl] at hx266_3); (try rw [show 1 * 4 = 4 from rfl] at hx266_3); have hn266_0 : ad266.block ≠ gb265 := Kd.own_blk (Kd.R_ne HO262.out BK265.out (by decide)); have hn266_1 : ad266.block ≠ gb265 := Kd.own_blk (Kd.R_ne HO262.out BK265.out (by decide)); replace hx266_0 := (cell_far (p := ⟨gb265, 0, none⟩) (by first | (rw [add_block]; exact hn266_0) | (show (Addr.add _ _).block ≠ _; rw [add_block]; exact hn266_0) | exact hn266_0) (.int .i64 t263)).trans hx266_0; replace hx266_1 := (cell_far (p := ⟨gb265, 0, none⟩) (by first | (rw [add_block]; exact hn266_0) | (show (Addr.add _ _).block ≠ _; rw [add_block]; exact hn266_0) | exact hn266_0) (.int .i64 t263)).trans hx266_1; replace hx266_2 := (cell_far (p := ⟨gb265, 0, none⟩) (by first | (rw [add_block]; exact hn266_0) | (show (Addr.add _ _).block ≠ _; rw [add_block]; exact hn266_0) | exact hn266_0) (.int .i64 t263)).trans hx266_2; replace hx266_3 := (cell_far (p := ⟨gb265, 0, none⟩) (by first | (rw [add_block]; exact hn266_0) | (show (Addr.add _ _).block ≠ _; rw [add_block]; exact hn266_0) | exact hn266_0) (.int .i64 t263)).trans hx266_3; replace hx266_0 := (cell_far (p := ⟨gb265, 1, none⟩) (by first | (rw [add_block]; exact hn266_1) | (show (Addr.add _ _).block ≠ _; rw [add_block]; exact hn266_1) | exact hn266_1) (.int .i64 t264)).trans hx266_0; replace hx266_1 := (cell_far (p := ⟨gb265, 1, none⟩) (by first | (rw [add_block]; exact hn266_1) | (show (Addr.add _ _).block ≠ _; rw [add_block]; exact hn266_1) | exact hn266_1) (.int .i64 t264)).trans hx266_1; replace hx266_2 := (cell_far (p := ⟨gb265, 1, none⟩) (by first | (rw [add_block]; exact hn266_1) | (show (Addr.add _ _).block ≠ _; rw [add_block]; exact hn266_1) | exact hn266_1) (.int .i64 t264)).trans hx266_2; replace hx266_3 := (cell_far (p := ⟨gb265, 1, none⟩) (by first | (rw [add_block]; exact hn266_1) | (show (Addr.add _ _).block ≠ _; rw [add_block]; exact hn266_1) | exact hn266_1) (.int .i64 t264)).trans hx266_3; clear hn266_0; clear hn266_1; replace p266 := eq_true p266; replace q266 := eq_true q266))
                                          go_ret
                                          exact ⟨by first | rfl | (have h_ := c68; simp only [ByteArray.size_append] at h_; have e0_ : (⟨#[120, 32]⟩ : ByteArray).size = 2 := rfl; (have hw_ : ∀ n : Int, -9223372036854775808 ≤ n ∧ n ≤ 9223372036854775807 → wrap64 n = n := fun n h => by unfold wrap64; omega); refine congrArg (fun b_ => Ending.returned (Value.bool b_)) (?_ : (_ : Bool) = _); rw [hw_] <;> omega) | (simp [errW_none, errW_some] <;> rfl) | (simp only [← hji9]; first | rfl | (simp [errW_none, errW_some] <;> rfl)) | (simp [*, errW_none, errW_some] <;> rfl), by repeat (first | (with_reducible first | exact HB.out | apply below_alloc | apply pw_below_drewN | apply below_drew1 | refine below_set ?_ GE265.out) | exact HB.out)⟩
                                      · rw [if_neg c90] at H
                                        exact absurd H (by simp)
                                    · rw [if_neg c89] at H
                                      have c89b0 : ((t260.length : Int) == 3) = false := beq_eq_false_iff_ne.mpr c89
                                      have c89b1 : ((t260.length : Int) != 3) = true := bne_iff_ne.mpr c89
                                      obtain rfl := Option.some.inj H
                                      go_wp2_with (first | ((with_reducible refine gate_callee (f := 10) rfl ?_); refine goesL_ (some 55) rfl rfl Tryd.func10 (by kernel_rfl) rfl #[.string (((⟨#[120, 32]⟩ : ByteArray) ++ x5_3) ++ (⟨#[121]⟩ : ByteArray))] rfl (by (try simp only [List.map_toArray, List.map_cons, List.map_nil]); first | done | rfl | (simp only [List.length_drop, List.length_take]; rfl)) ?_; (with_reducible refine (lex_Lex.calls (((⟨#[120, 32]⟩ : ByteArray) ++ x5_3) ++ (⟨#[121]⟩ : ByteArray)) t260 t263 t264 _ ?side1 A69.out).mono ?_); (case side1 => exact Globs.below HG.out (by repeat (first | (with_reducible first | exact HB.out | apply below_alloc | apply pw_below_drewN | apply below_drew1) | exact HB.out))); rintro e w101 ⟨v261, rfl, ho0, hb⟩; refine ⟨_, rfl, ?_⟩; have n0_ := Aside0.mk (Kd.R_lower ho0 (below_size (by repeat (first | (with_reducible first | exact HB.out | apply below_alloc | apply pw_below_drewN | apply below_drew1) | exact HB.out)))); have n1_ := Aside0.mk (below_step (by repeat (first | (with_reducible first | exact HB.out | apply below_alloc | apply pw_below_drewN | apply below_drew1) | exact HB.out)) hb); clear HB; have HO262 := n0_; have HB := n1_; clear n0_ n1_; (try clear hb); (try clear hb2); (try clear hk); (try clear hi); (try clear ho0)) | ((with_reducible refine gate_dst (N := 9) rfl ?_); (try (refine gate_guard (by rfl) ?_; dsimp only)); refine box_event ?hg (N := 9) ?hd (cs := #[.int .i64 0, .int .i64 0]) (t := 25) ?hr ?_; (case hd => rfl); (case hg => rfl); (case hr => first | (go_simp; done) | (go_simp; rfl)); intro gb265 hg w102 hbox hb; have n0_ := Aside0.mk (Kd.R_below (by (with_reducible repeat (first | apply Kd.R_alloc | apply Kd.R_drewN | apply Kd.R_drew)); exact HO262.out) hb); have n1_ := Aside0.mk (below_step (by repeat (first | (with_reducible first | exact HB.out | apply below_alloc | apply pw_below_drewN | apply below_drew1) | exact HB.out)) hb); have n2_ := Aside0.mk (hbox); have n3_ := Aside0.mk ((by rw [hg]; exact (below_size (by repeat (first | (with_reducible first | exact HB.out | apply below_alloc | apply pw_below_drewN | apply below_drew1) | exact HB.out))) : w.heap.size ≤ gb265)); have n4_ := Aside0.mk ((by rw [hg]; exact (below_size (by repeat (first | (with_reducible first | exact HB.out | apply below_alloc | apply pw_below_drewN | apply below_drew1) | exact HB.out))) : w.heap.size ≤ gb265)); clear HO262; clear HB; have HO262 := n0_; have HB := n1_; have BK265 := n2_; have GW265 := n3_; have GE265 := n4_; clear n0_ n1_ n2_ n3_ n4_; clear hb hbox hg; have hcz103_0 : w102.cell? ⟨gb265, 0, none⟩ = some (.int .i64 0) := (blk_cell BK265.out 0).trans rfl; have hcz103_1 : w102.cell? ⟨gb265, 1, none⟩ = some (.int .i64 0) := (blk_cell BK265.out 1).trans rfl; have hfz103_0 := blk_frozen BK265.out 0; have hfz103_1 := blk_frozen BK265.out 1; obtain ⟨Ao104, co104, eo104⟩ := Kd.R_slice HO262.out; subst eo104))
                                      go_ret
                                      exact ⟨by first | rfl | (have h_ := c68; simp only [ByteArray.size_append] at h_; have e0_ : (⟨#[120, 32]⟩ : ByteArray).size = 2 := rfl; (have hw_ : ∀ n : Int, -9223372036854775808 ≤ n ∧ n ≤ 9223372036854775807 → wrap64 n = n := fun n h => by unfold wrap64; omega); refine congrArg (fun b_ => Ending.returned (Value.bool b_)) (?_ : (_ : Bool) = _); rw [hw_] <;> omega) | (simp [errW_none, errW_some] <;> rfl) | (simp only [← hji9]; first | rfl | (simp [errW_none, errW_some] <;> rfl)) | (simp [*, errW_none, errW_some] <;> rfl), by repeat (first | (with_reducible first | exact HB.out | apply below_alloc | apply pw_below_drewN | apply below_drew1 | refine below_set ?_ GE265.out) | exact HB.out)⟩
                                  · rw [if_neg c88] at H
                                    have c88b0 : (t263 == 0 && (t264 == 0)) = false := by simpa using c88
                                    (try (have c88b1 : decide (t263 = 0 && (t264 == 0)) = false := by simpa using c88))
                                    (try (have c88b2 : (t263 == 0 && (t264 == 0)) = false := by simpa using c88))
                                    (try (have c88b3 : ¬ (t263 = 0 && (t264 == 0)) := by simpa using c88))
                                    clear c88
                                    obtain rfl := Option.some.inj H
                                    go_wp2_with (first | ((with_reducible refine gate_callee (f := 10) rfl ?_); refine goesL_ (some 55) rfl rfl Tryd.func10 (by kernel_rfl) rfl #[.string (((⟨#[120, 32]⟩ : ByteArray) ++ x5_3) ++ (⟨#[121]⟩ : ByteArray))] rfl (by (try simp only [List.map_toArray, List.map_cons, List.map_nil]); first | done | rfl | (simp only [List.length_drop, List.length_take]; rfl)) ?_; (with_reducible refine (lex_Lex.calls (((⟨#[120, 32]⟩ : ByteArray) ++ x5_3) ++ (⟨#[121]⟩ : ByteArray)) t260 t263 t264 _ ?side1 A69.out).mono ?_); (case side1 => exact Globs.below HG.out (by repeat (first | (with_reducible first | exact HB.out | apply below_alloc | apply pw_below_drewN | apply below_drew1) | exact HB.out))); rintro e w105 ⟨v261, rfl, ho0, hb⟩; refine ⟨_, rfl, ?_⟩; have n0_ := Aside0.mk (Kd.R_lower ho0 (below_size (by repeat (first | (with_reducible first | exact HB.out | apply below_alloc | apply pw_below_drewN | apply below_drew1) | exact HB.out)))); have n1_ := Aside0.mk (below_step (by repeat (first | (with_reducible first | exact HB.out | apply below_alloc | apply pw_below_drewN | apply below_drew1) | exact HB.out)) hb); clear HB; have HO262 := n0_; have HB := n1_; clear n0_ n1_; (try clear hb); (try clear hb2); (try clear hk); (try clear hi); (try clear ho0)) | ((with_reducible refine gate_dst (N := 9) rfl ?_); (try (refine gate_guard (by rfl) ?_; dsimp only)); refine box_event ?hg (N := 9) ?hd (cs := #[.int .i64 0, .int .i64 0]) (t := 25) ?hr ?_; (case hd => rfl); (case hg => rfl); (case hr => first | (go_simp; done) | (go_simp; rfl)); intro gb265 hg w106 hbox hb; have n0_ := Aside0.mk (Kd.R_below (by (with_reducible repeat (first | apply Kd.R_alloc | apply Kd.R_drewN | apply Kd.R_drew)); exact HO262.out) hb); have n1_ := Aside0.mk (below_step (by repeat (first | (with_reducible first | exact HB.out | apply below_alloc | apply pw_below_drewN | apply below_drew1) | exact HB.out)) hb); have n2_ := Aside0.mk (hbox); have n3_ := Aside0.mk ((by rw [hg]; exact (below_size (by repeat (first | (with_reducible first | exact HB.out | apply below_alloc | apply pw_below_drewN | apply below_drew1) | exact HB.out))) : w.heap.size ≤ gb265)); have n4_ := Aside0.mk ((by rw [hg]; exact (below_size (by repeat (first | (with_reducible first | exact HB.out | apply below_alloc | apply pw_below_drewN | apply below_drew1) | exact HB.out))) : w.heap.size ≤ gb265)); clear HO262; clear HB; have HO262 := n0_; have HB := n1_; have BK265 := n2_; have GW265 := n3_; have GE265 := n4_; clear n0_ n1_ n2_ n3_ n4_; clear hb hbox hg; have hcz107_0 : w106.cell? ⟨gb265, 0, none⟩ = some (.int .i64 0) := (blk_cell BK265.out 0).trans rfl; have hcz107_1 : w106.cell? ⟨gb265, 1, none⟩ = some (.int .i64 0) := (blk_cell BK265.out 1).trans rfl; have hfz107_0 := blk_frozen BK265.out 0; have hfz107_1 := blk_frozen BK265.out 1))
                                    go_ret
                                    exact ⟨by first | rfl | (have h_ := c68; simp only [ByteArray.size_append] at h_; have e0_ : (⟨#[120, 32]⟩ : ByteArray).size = 2 := rfl; (have hw_ : ∀ n : Int, -9223372036854775808 ≤ n ∧ n ≤ 9223372036854775807 → wrap64 n = n := fun n h => by unfold wrap64; omega); refine congrArg (fun b_ => Ending.returned (Value.bool b_)) (?_ : (_ : Bool) = _); rw [hw_] <;> omega) | (simp [errW_none, errW_some] <;> rfl) | (simp only [← hji9]; first | rfl | (simp [errW_none, errW_some] <;> rfl)) | (simp [*, errW_none, errW_some] <;> rfl), by repeat (first | (with_reducible first | exact HB.out | apply below_alloc | apply pw_below_drewN | apply below_drew1 | refine below_set ?_ GE265.out) | exact HB.out)⟩
                            · rw [if_neg c68] at H
                              exact absurd H (by simp)
                          · rw [if_neg c67] at H
                            exact absurd H (by simp)
  · replace c4 := Bool.eq_false_iff.mpr c4
    subst c4
    have H1 : (some false) = some r := by rw [if_neg (show ¬ (false = true) by decide)] at H; exact H
    clear H
    have H := H1
    clear H1
    obtain rfl := Option.some.inj H
    go_enter Tryd.func7, Tryd.ntmps7
    go_wp2_with (first | ((with_reducible refine gate_callee (f := 9) rfl ?_); refine goesL_ (some 10) rfl rfl Tryd.func9 (by kernel_rfl) rfl #[] rfl (by (try simp only [List.map_toArray, List.map_cons, List.map_nil]); first | done | rfl | (simp only [List.length_drop, List.length_take]; rfl)) ?_; (with_reducible refine (droguelaw03_alive.calls  false _ ?side1 A3.out).mono ?_); (case side1 => exact Globs.below HG.out (by repeat (first | (with_reducible first | exact HB.out | apply below_alloc | apply pw_below_drewN | apply below_drew1) | exact HB.out))); rintro e w108 ⟨rfl, hb⟩; refine ⟨_, rfl, ?_⟩; have n0_ := Aside0.mk (below_step (by repeat (first | (with_reducible first | exact HB.out | apply below_alloc | apply pw_below_drewN | apply below_drew1) | exact HB.out)) hb); clear HB; have HB := n0_; clear n0_; (try clear hb); (try clear hb2); (try clear hk); (try clear hi)))
    go_ret
    exact ⟨by first | rfl | (simp [errW_none, errW_some] <;> rfl) | (simp [*, errW_none, errW_some] <;> rfl), by repeat (first | (with_reducible first | exact HB.out | apply below_alloc | apply pw_below_drewN | apply below_drew1) | exact HB.out)⟩

/-- THE ONE PURE STATEMENT of droguelaw03_LexNumbers: yours. -/
def droguelaw03_LexNumbers.Pure : Prop := ∀ (a0 : Int) (a1 : Int), (Lit.int .i64 a0).wf = true → (Lit.int .u8 a1).wf = true → ∃ k, droguelaw03_LexNumbers.f k a0 a1 = some true
theorem droguelaw03_LexNumbers.walk (P : droguelaw03_LexNumbers.Pure) (a0 : Int) (a1 : Int) (w : World) (w0 : (Lit.int .i64 a0).wf = true) (w1 : (Lit.int .u8 a1).wf = true) (hG : Globs w) :
    Calls Tryd.prog 7 #[.int .i64 a0, .int .u8 a1] w fun e w' => e = .returned (.bool true) ∧ Below w.heap.size w w' := by
  obtain ⟨k, h⟩ := P a0 a1 w0 w1
  refine (droguelaw03_LexNumbers.calls k a0 a1 true w hG h).mono ?_
  rintro e w' ⟨rfl, hd⟩
  exact ⟨rfl, hd⟩

end Go.Proofs.YtnlbbpandnpgoaaDoor.PL
