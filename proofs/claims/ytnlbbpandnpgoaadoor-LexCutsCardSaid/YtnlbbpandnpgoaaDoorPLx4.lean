-- PRINTED by print.py (a twelfth state) out of the translation. Not trusted: Lean checks it.
import Derived.Test.YtnlbbpandnpgoaaDoorPLx0
import Derived.Test.YtnlbbpandnpgoaaDoorPLx3
namespace Go.Proofs.YtnlbbpandnpgoaaDoor.PL
open Go.RowKit Go.Proofs.YtnlbbpandnpgoaaDoorW.PrintWords Go.Proofs.YtnlbbpandnpgoaaDoorW.PrintLast Go.Proofs.YtnlbbpandnpgoaaDoorW.PrintMore
attribute [local go_sem] max2_int min2_int max_two min_two max_three min_three max_four min_four   -- for this text's walks alone
set_option linter.unusedVariables false
set_option linter.unusedSimpArgs false

/-! ### drogueref03_Lex: function 11 -/
mutual
def drogueref03_Lex.l0 : Nat → ByteArray → List (S36) → Int → Option ((List (S36)) × Int × Int)
  | 0, _, _, _ => none
  | k + 1, x0, x4, x5 => if x5 < (x0.size : Int) then (if 0 ≤ x5 then (if (bt x0 x5) = 32 then (drogueref03_Lex.j1 k x0 x4 x5 (bt x0 x5) true) else (if (bt x0 x5) = 9 then (drogueref03_Lex.j1 k x0 x4 x5 (bt x0 x5) true) else (drogueref03_Lex.j1 k x0 x4 x5 (bt x0 x5) ((bt x0 x5) == 10)))) else (none)) else (some (x4, 0, 0))
def drogueref03_Lex.j1 : Nat → ByteArray → List (S36) → Int → Int → Bool → Option ((List (S36)) × Int × Int)
  | 0, _, _, _, _, _ => none
  | k + 1, x0, x4, x5, x6, x31 => if x31 = true then (drogueref03_Lex.l0 k x0 x4 (wrap64 (x5 + 1))) else (if x6 = 35 then (drogueref03_Lex.l1 k x0 x4 x5) else ((drogueref03_letter.f x6).bind fun t114 => (if t114 = true then (drogueref03_Lex.l2 k x0 x4 x5 (wrap64 (x5 + 1)) 0 x5 (⟨#[]⟩ : ByteArray) 0) else ((drogueref03_digit.f x6).bind fun t124 => (if t124 = true then (drogueref03_Lex.j5 k x0 x4 x5 x6 (wrap64 (x5 + 1)) true true 0 x5 (⟨#[]⟩ : ByteArray) 0) else (drogueref03_Lex.j5 k x0 x4 x5 x6 (wrap64 (x5 + 1)) true (x6 == 45) 0 x5 (⟨#[]⟩ : ByteArray) 0))))))
def drogueref03_Lex.l1 : Nat → ByteArray → List (S36) → Int → Option ((List (S36)) × Int × Int)
  | 0, _, _, _ => none
  | k + 1, x0, x4, x5 => if x5 < (x0.size : Int) then (if 0 ≤ x5 then (if (bt x0 x5) = 10 then (drogueref03_Lex.l0 k x0 x4 x5) else (drogueref03_Lex.l1 k x0 x4 (wrap64 (x5 + 1)))) else (none)) else (drogueref03_Lex.l0 k x0 x4 x5)
def drogueref03_Lex.j4 : Nat → ByteArray → List (S36) → Int → Int → Int → Int → ByteArray → Int → Option ((List (S36)) × Int × Int)
  | 0, _, _, _, _, _, _, _, _ => none
  | k + 1, x0, x4, x5, x7, x114000, x114001, x114002, x114003 => if 0 ≤ x5 then (if x5 ≤ x7 then (if x7 ≤ (x0.size : Int) then ((drogueref03_Word.f k (x0.extract (x5 : Int).toNat (x7 : Int).toNat)).bind fun t117 => (if t117 = true then (if ((wrap64 (x7 - x5)) ≤ 16) then (if x4.length < 3518437208883 then (drogueref03_Lex.l0 k x0 (x4 ++ [(⟨2, x114001, x0.extract (x5 : Int).toNat (x7 : Int).toNat, x114003⟩ : S36)]) x7) else (none)) else (some (([] : List (S36)), x5, 1))) else (if ((wrap64 (x7 - x5)) ≤ 16) then (if x4.length < 3518437208883 then (drogueref03_Lex.l0 k x0 (x4 ++ [(⟨1, x114001, x0.extract (x5 : Int).toNat (x7 : Int).toNat, x114003⟩ : S36)]) x7) else (none)) else (some (([] : List (S36)), x5, 1))))) else (none)) else (none)) else (none)
def drogueref03_Lex.l2 : Nat → ByteArray → List (S36) → Int → Int → Int → Int → ByteArray → Int → Option ((List (S36)) × Int × Int)
  | 0, _, _, _, _, _, _, _, _ => none
  | k + 1, x0, x4, x5, x7, x114000, x114001, x114002, x114003 => if x7 < (x0.size : Int) then (if 0 ≤ x7 then ((drogueref03_letter.f (bt x0 x7)).bind fun t115 => (if t115 = true then (drogueref03_Lex.l2 k x0 x4 x5 (wrap64 (x7 + 1)) x114000 x114001 x114002 x114003) else ((drogueref03_digit.f (bt x0 x7)).bind fun t116 => (if t116 = true then (drogueref03_Lex.l2 k x0 x4 x5 (wrap64 (x7 + 1)) x114000 x114001 x114002 x114003) else (if (bt x0 x7) = 95 then (drogueref03_Lex.l2 k x0 x4 x5 (wrap64 (x7 + 1)) x114000 x114001 x114002 x114003) else (drogueref03_Lex.j4 k x0 x4 x5 x7 x114000 x114001 x114002 x114003)))))) else (none)) else (drogueref03_Lex.j4 k x0 x4 x5 x7 x114000 x114001 x114002 x114003)
def drogueref03_Lex.j5 : Nat → ByteArray → List (S36) → Int → Int → Int → Bool → Bool → Int → Int → ByteArray → Int → Option ((List (S36)) × Int × Int)
  | 0, _, _, _, _, _, _, _, _, _, _, _ => none
  | k + 1, x0, x4, x5, x6, x7, x9, x90, x114000, x114001, x114002, x114003 => if x90 = true then (drogueref03_Lex.l3 k x0 x4 x5 x6 x7 x114000 x114001 x114002 x114003) else ((drogueref03_sign.f k x6).bind fun t142 => (if t142 = true then (if x9 = true then (if 0 ≤ x5 then (if x5 ≤ x7 then (if x7 ≤ (x0.size : Int) then (if x4.length < 3518437208883 then (drogueref03_Lex.l0 k x0 (x4 ++ [(⟨4, x114001, x0.extract (x5 : Int).toNat (x7 : Int).toNat, x114003⟩ : S36)]) x7) else (none)) else (none)) else (none)) else (none)) else (some (([] : List (S36)), x5, 1))) else (some (([] : List (S36)), x5, 1))))
def drogueref03_Lex.l3 : Nat → ByteArray → List (S36) → Int → Int → Int → Int → Int → ByteArray → Int → Option ((List (S36)) × Int × Int)
  | 0, _, _, _, _, _, _, _, _, _ => none
  | k + 1, x0, x4, x5, x6, x7, x114000, x114001, x114002, x114003 => if x7 < (x0.size : Int) then (if 0 ≤ x7 then ((drogueref03_digit.f (bt x0 x7)).bind fun t125 => (if t125 = true then (drogueref03_Lex.l3 k x0 x4 x5 x6 (wrap64 (x7 + 1)) x114000 x114001 x114002 x114003) else (if 0 ≤ x5 then (if x5 ≤ x7 then (if x7 ≤ (x0.size : Int) then ((drogueref03_number.f k (x0.extract (x5 : Int).toNat (x7 : Int).toNat)).bind fun bt126 => (if bt126.2 = true then (if x6 = 45 then (if (x7 > (wrap64 (x5 + 1))) then (if x4.length < 3518437208883 then (drogueref03_Lex.l0 k x0 (x4 ++ [(⟨3, x114001, x0.extract (x5 : Int).toNat (x7 : Int).toNat, bt126.1⟩ : S36)]) x7) else (none)) else (some (([] : List (S36)), x5, 1))) else (if x4.length < 3518437208883 then (drogueref03_Lex.l0 k x0 (x4 ++ [(⟨3, x114001, x0.extract (x5 : Int).toNat (x7 : Int).toNat, bt126.1⟩ : S36)]) x7) else (none))) else (some (([] : List (S36)), x5, 1)))) else (none)) else (none)) else (none)))) else (none)) else (if 0 ≤ x5 then (if x5 ≤ x7 then (if x7 ≤ (x0.size : Int) then ((drogueref03_number.f k (x0.extract (x5 : Int).toNat (x7 : Int).toNat)).bind fun bt134 => (if bt134.2 = true then (if x6 = 45 then (if (x7 > (wrap64 (x5 + 1))) then (if x4.length < 3518437208883 then (drogueref03_Lex.l0 k x0 (x4 ++ [(⟨3, x114001, x0.extract (x5 : Int).toNat (x7 : Int).toNat, bt134.1⟩ : S36)]) x7) else (none)) else (some (([] : List (S36)), x5, 1))) else (if x4.length < 3518437208883 then (drogueref03_Lex.l0 k x0 (x4 ++ [(⟨3, x114001, x0.extract (x5 : Int).toNat (x7 : Int).toNat, bt134.1⟩ : S36)]) x7) else (none))) else (some (([] : List (S36)), x5, 1)))) else (none)) else (none)) else (none))
end
def drogueref03_Lex.f (k : Nat) (a0 : ByteArray) : Option ((List (S36)) × Int × Int) := if (a0.size : Int) > 16384 then (some (([] : List (S36)), 16384, 3)) else (drogueref03_Lex.l0 k a0 (([] : List (S36))) 0)
theorem drogueref03_Lex.mono_l : ∀ k, (∀ y0 y1 y2, LeO (drogueref03_Lex.l0 k y0 y1 y2) (drogueref03_Lex.l0 (k + 1) y0 y1 y2)) ∧ (∀ y0 y1 y2 y3 y4, LeO (drogueref03_Lex.j1 k y0 y1 y2 y3 y4) (drogueref03_Lex.j1 (k + 1) y0 y1 y2 y3 y4)) ∧ (∀ y0 y1 y2, LeO (drogueref03_Lex.l1 k y0 y1 y2) (drogueref03_Lex.l1 (k + 1) y0 y1 y2)) ∧ (∀ y0 y1 y2 y3 y4 y5 y6 y7, LeO (drogueref03_Lex.j4 k y0 y1 y2 y3 y4 y5 y6 y7) (drogueref03_Lex.j4 (k + 1) y0 y1 y2 y3 y4 y5 y6 y7)) ∧ (∀ y0 y1 y2 y3 y4 y5 y6 y7, LeO (drogueref03_Lex.l2 k y0 y1 y2 y3 y4 y5 y6 y7) (drogueref03_Lex.l2 (k + 1) y0 y1 y2 y3 y4 y5 y6 y7)) ∧ (∀ y0 y1 y2 y3 y4 y5 y6 y7 y8 y9 y10, LeO (drogueref03_Lex.j5 k y0 y1 y2 y3 y4 y5 y6 y7 y8 y9 y10) (drogueref03_Lex.j5 (k + 1) y0 y1 y2 y3 y4 y5 y6 y7 y8 y9 y10)) ∧ (∀ y0 y1 y2 y3 y4 y5 y6 y7 y8, LeO (drogueref03_Lex.l3 k y0 y1 y2 y3 y4 y5 y6 y7 y8) (drogueref03_Lex.l3 (k + 1) y0 y1 y2 y3 y4 y5 y6 y7 y8))
  | 0 => ⟨fun _ _ _ r h => by simp [drogueref03_Lex.l0] at h, fun _ _ _ _ _ r h => by simp [drogueref03_Lex.j1] at h, fun _ _ _ r h => by simp [drogueref03_Lex.l1] at h, fun _ _ _ _ _ _ _ _ r h => by simp [drogueref03_Lex.j4] at h, fun _ _ _ _ _ _ _ _ r h => by simp [drogueref03_Lex.l2] at h, fun _ _ _ _ _ _ _ _ _ _ _ r h => by simp [drogueref03_Lex.j5] at h, fun _ _ _ _ _ _ _ _ _ r h => by simp [drogueref03_Lex.l3] at h⟩
  | k + 1 => by
    obtain ⟨ih0, ih1, ih2, ih3, ih4, ih5, ih6⟩ := drogueref03_Lex.mono_l k
    refine ⟨?_, ?_, ?_, ?_, ?_, ?_, ?_⟩
    · intro y0 y1 y2
      unfold drogueref03_Lex.l0
      repeat' first
      | (with_reducible exact ih0 _ _ _)
      | (with_reducible exact ih1 _ _ _ _ _)
      | (with_reducible exact ih2 _ _ _)
      | (with_reducible exact ih3 _ _ _ _ _ _ _ _)
      | (with_reducible exact ih4 _ _ _ _ _ _ _ _)
      | (with_reducible exact ih5 _ _ _ _ _ _ _ _ _ _ _)
      | (with_reducible exact ih6 _ _ _ _ _ _ _ _ _)
      | (with_reducible exact drogueref03_Word.mono _ _)
      | (with_reducible exact drogueref03_number.mono _ _)
      | (with_reducible exact drogueref03_sign.mono _ _)
      | (with_reducible exact LeO.refl _)
      | (with_reducible exact LeO.none _)
      | (with_reducible refine LeO.ite ?_ ?_)
      | (with_reducible refine LeO.bind ?_ (fun _ => ?_))
      | exact ih0 _ _ _
      | exact ih1 _ _ _ _ _
      | exact ih2 _ _ _
      | exact ih3 _ _ _ _ _ _ _ _
      | exact ih4 _ _ _ _ _ _ _ _
      | exact ih5 _ _ _ _ _ _ _ _ _ _ _
      | exact ih6 _ _ _ _ _ _ _ _ _
      | exact drogueref03_Word.mono _ _
      | exact drogueref03_number.mono _ _
      | exact drogueref03_sign.mono _ _
      | exact LeO.none _
      | refine LeO.ite ?_ ?_
      | refine LeO.bind ?_ (fun _ => ?_)
    · intro y0 y1 y2 y3 y4
      unfold drogueref03_Lex.j1
      repeat' first
      | (with_reducible exact ih0 _ _ _)
      | (with_reducible exact ih1 _ _ _ _ _)
      | (with_reducible exact ih2 _ _ _)
      | (with_reducible exact ih3 _ _ _ _ _ _ _ _)
      | (with_reducible exact ih4 _ _ _ _ _ _ _ _)
      | (with_reducible exact ih5 _ _ _ _ _ _ _ _ _ _ _)
      | (with_reducible exact ih6 _ _ _ _ _ _ _ _ _)
      | (with_reducible exact drogueref03_Word.mono _ _)
      | (with_reducible exact drogueref03_number.mono _ _)
      | (with_reducible exact drogueref03_sign.mono _ _)
      | (with_reducible exact LeO.refl _)
      | (with_reducible exact LeO.none _)
      | (with_reducible refine LeO.ite ?_ ?_)
      | (with_reducible refine LeO.bind ?_ (fun _ => ?_))
      | exact ih0 _ _ _
      | exact ih1 _ _ _ _ _
      | exact ih2 _ _ _
      | exact ih3 _ _ _ _ _ _ _ _
      | exact ih4 _ _ _ _ _ _ _ _
      | exact ih5 _ _ _ _ _ _ _ _ _ _ _
      | exact ih6 _ _ _ _ _ _ _ _ _
      | exact drogueref03_Word.mono _ _
      | exact drogueref03_number.mono _ _
      | exact drogueref03_sign.mono _ _
      | exact LeO.none _
      | refine LeO.ite ?_ ?_
      | refine LeO.bind ?_ (fun _ => ?_)
    · intro y0 y1 y2
      unfold drogueref03_Lex.l1
      repeat' first
      | (with_reducible exact ih0 _ _ _)
      | (with_reducible exact ih1 _ _ _ _ _)
      | (with_reducible exact ih2 _ _ _)
      | (with_reducible exact ih3 _ _ _ _ _ _ _ _)
      | (with_reducible exact ih4 _ _ _ _ _ _ _ _)
      | (with_reducible exact ih5 _ _ _ _ _ _ _ _ _ _ _)
      | (with_reducible exact ih6 _ _ _ _ _ _ _ _ _)
      | (with_reducible exact drogueref03_Word.mono _ _)
      | (with_reducible exact drogueref03_number.mono _ _)
      | (with_reducible exact drogueref03_sign.mono _ _)
      | (with_reducible exact LeO.refl _)
      | (with_reducible exact LeO.none _)
      | (with_reducible refine LeO.ite ?_ ?_)
      | (with_reducible refine LeO.bind ?_ (fun _ => ?_))
      | exact ih0 _ _ _
      | exact ih1 _ _ _ _ _
      | exact ih2 _ _ _
      | exact ih3 _ _ _ _ _ _ _ _
      | exact ih4 _ _ _ _ _ _ _ _
      | exact ih5 _ _ _ _ _ _ _ _ _ _ _
      | exact ih6 _ _ _ _ _ _ _ _ _
      | exact drogueref03_Word.mono _ _
      | exact drogueref03_number.mono _ _
      | exact drogueref03_sign.mono _ _
      | exact LeO.none _
      | refine LeO.ite ?_ ?_
      | refine LeO.bind ?_ (fun _ => ?_)
    · intro y0 y1 y2 y3 y4 y5 y6 y7
      unfold drogueref03_Lex.j4
      repeat' first
      | (with_reducible exact ih0 _ _ _)
      | (with_reducible exact ih1 _ _ _ _ _)
      | (with_reducible exact ih2 _ _ _)
      | (with_reducible exact ih3 _ _ _ _ _ _ _ _)
      | (with_reducible exact ih4 _ _ _ _ _ _ _ _)
      | (with_reducible exact ih5 _ _ _ _ _ _ _ _ _ _ _)
      | (with_reducible exact ih6 _ _ _ _ _ _ _ _ _)
      | (with_reducible exact drogueref03_Word.mono _ _)
      | (with_reducible exact drogueref03_number.mono _ _)
      | (with_reducible exact drogueref03_sign.mono _ _)
      | (with_reducible exact LeO.refl _)
      | (with_reducible exact LeO.none _)
      | (with_reducible refine LeO.ite ?_ ?_)
      | (with_reducible refine LeO.bind ?_ (fun _ => ?_))
      | exact ih0 _ _ _
      | exact ih1 _ _ _ _ _
      | exact ih2 _ _ _
      | exact ih3 _ _ _ _ _ _ _ _
      | exact ih4 _ _ _ _ _ _ _ _
      | exact ih5 _ _ _ _ _ _ _ _ _ _ _
      | exact ih6 _ _ _ _ _ _ _ _ _
      | exact drogueref03_Word.mono _ _
      | exact drogueref03_number.mono _ _
      | exact drogueref03_sign.mono _ _
      | exact LeO.none _
      | refine LeO.ite ?_ ?_
      | refine LeO.bind ?_ (fun _ => ?_)
    · intro y0 y1 y2 y3 y4 y5 y6 y7
      unfold drogueref03_Lex.l2
      repeat' first
      | (with_reducible exact ih0 _ _ _)
      | (with_reducible exact ih1 _ _ _ _ _)
      | (with_reducible exact ih2 _ _ _)
      | (with_reducible exact ih3 _ _ _ _ _ _ _ _)
      | (with_reducible exact ih4 _ _ _ _ _ _ _ _)
      | (with_reducible exact ih5 _ _ _ _ _ _ _ _ _ _ _)
      | (with_reducible exact ih6 _ _ _ _ _ _ _ _ _)
      | (with_reducible exact drogueref03_Word.mono _ _)
      | (with_reducible exact drogueref03_number.mono _ _)
      | (with_reducible exact drogueref03_sign.mono _ _)
      | (with_reducible exact LeO.refl _)
      | (with_reducible exact LeO.none _)
      | (with_reducible refine LeO.ite ?_ ?_)
      | (with_reducible refine LeO.bind ?_ (fun _ => ?_))
      | exact ih0 _ _ _
      | exact ih1 _ _ _ _ _
      | exact ih2 _ _ _
      | exact ih3 _ _ _ _ _ _ _ _
      | exact ih4 _ _ _ _ _ _ _ _
      | exact ih5 _ _ _ _ _ _ _ _ _ _ _
      | exact ih6 _ _ _ _ _ _ _ _ _
      | exact drogueref03_Word.mono _ _
      | exact drogueref03_number.mono _ _
      | exact drogueref03_sign.mono _ _
      | exact LeO.none _
      | refine LeO.ite ?_ ?_
      | refine LeO.bind ?_ (fun _ => ?_)
    · intro y0 y1 y2 y3 y4 y5 y6 y7 y8 y9 y10
      unfold drogueref03_Lex.j5
      repeat' first
      | (with_reducible exact ih0 _ _ _)
      | (with_reducible exact ih1 _ _ _ _ _)
      | (with_reducible exact ih2 _ _ _)
      | (with_reducible exact ih3 _ _ _ _ _ _ _ _)
      | (with_reducible exact ih4 _ _ _ _ _ _ _ _)
      | (with_reducible exact ih5 _ _ _ _ _ _ _ _ _ _ _)
      | (with_reducible exact ih6 _ _ _ _ _ _ _ _ _)
      | (with_reducible exact drogueref03_Word.mono _ _)
      | (with_reducible exact drogueref03_number.mono _ _)
      | (with_reducible exact drogueref03_sign.mono _ _)
      | (with_reducible exact LeO.refl _)
      | (with_reducible exact LeO.none _)
      | (with_reducible refine LeO.ite ?_ ?_)
      | (with_reducible refine LeO.bind ?_ (fun _ => ?_))
      | exact ih0 _ _ _
      | exact ih1 _ _ _ _ _
      | exact ih2 _ _ _
      | exact ih3 _ _ _ _ _ _ _ _
      | exact ih4 _ _ _ _ _ _ _ _
      | exact ih5 _ _ _ _ _ _ _ _ _ _ _
      | exact ih6 _ _ _ _ _ _ _ _ _
      | exact drogueref03_Word.mono _ _
      | exact drogueref03_number.mono _ _
      | exact drogueref03_sign.mono _ _
      | exact LeO.none _
      | refine LeO.ite ?_ ?_
      | refine LeO.bind ?_ (fun _ => ?_)
    · intro y0 y1 y2 y3 y4 y5 y6 y7 y8
      unfold drogueref03_Lex.l3
      repeat' first
      | (with_reducible exact ih0 _ _ _)
      | (with_reducible exact ih1 _ _ _ _ _)
      | (with_reducible exact ih2 _ _ _)
      | (with_reducible exact ih3 _ _ _ _ _ _ _ _)
      | (with_reducible exact ih4 _ _ _ _ _ _ _ _)
      | (with_reducible exact ih5 _ _ _ _ _ _ _ _ _ _ _)
      | (with_reducible exact ih6 _ _ _ _ _ _ _ _ _)
      | (with_reducible exact drogueref03_Word.mono _ _)
      | (with_reducible exact drogueref03_number.mono _ _)
      | (with_reducible exact drogueref03_sign.mono _ _)
      | (with_reducible exact LeO.refl _)
      | (with_reducible exact LeO.none _)
      | (with_reducible refine LeO.ite ?_ ?_)
      | (with_reducible refine LeO.bind ?_ (fun _ => ?_))
      | exact ih0 _ _ _
      | exact ih1 _ _ _ _ _
      | exact ih2 _ _ _
      | exact ih3 _ _ _ _ _ _ _ _
      | exact ih4 _ _ _ _ _ _ _ _
      | exact ih5 _ _ _ _ _ _ _ _ _ _ _
      | exact ih6 _ _ _ _ _ _ _ _ _
      | exact drogueref03_Word.mono _ _
      | exact drogueref03_number.mono _ _
      | exact drogueref03_sign.mono _ _
      | exact LeO.none _
      | refine LeO.ite ?_ ?_
      | refine LeO.bind ?_ (fun _ => ?_)
theorem drogueref03_Lex.mono : ∀ a0 k, LeO (drogueref03_Lex.f k a0) (drogueref03_Lex.f (k + 1) a0) := by
  intro a0 k
  obtain ⟨ih0, ih1, ih2, ih3, ih4, ih5, ih6⟩ := drogueref03_Lex.mono_l k
  unfold drogueref03_Lex.f
  repeat' first
      | (with_reducible exact ih0 _ _ _)
      | (with_reducible exact ih1 _ _ _ _ _)
      | (with_reducible exact ih2 _ _ _)
      | (with_reducible exact ih3 _ _ _ _ _ _ _ _)
      | (with_reducible exact ih4 _ _ _ _ _ _ _ _)
      | (with_reducible exact ih5 _ _ _ _ _ _ _ _ _ _ _)
      | (with_reducible exact ih6 _ _ _ _ _ _ _ _ _)
      | (with_reducible exact drogueref03_Word.mono _ _)
      | (with_reducible exact drogueref03_number.mono _ _)
      | (with_reducible exact drogueref03_sign.mono _ _)
      | (with_reducible exact LeO.refl _)
      | (with_reducible exact LeO.none _)
      | (with_reducible refine LeO.ite ?_ ?_)
      | (with_reducible refine LeO.bind ?_ (fun _ => ?_))
      | exact ih0 _ _ _
      | exact ih1 _ _ _ _ _
      | exact ih2 _ _ _
      | exact ih3 _ _ _ _ _ _ _ _
      | exact ih4 _ _ _ _ _ _ _ _
      | exact ih5 _ _ _ _ _ _ _ _ _ _ _
      | exact ih6 _ _ _ _ _ _ _ _ _
      | exact drogueref03_Word.mono _ _
      | exact drogueref03_number.mono _ _
      | exact drogueref03_sign.mono _ _
      | exact LeO.none _
      | refine LeO.ite ?_ ?_
      | refine LeO.bind ?_ (fun _ => ?_)
set_option maxHeartbeats 8000000 in
set_option maxRecDepth 100000 in
theorem drogueref03_Lex.calls (k : Nat) (a0 : ByteArray) (r1 : List (S36)) (r2 : Int) (r3 : Int) (w : World) (h : drogueref03_Lex.f k a0 = some (r1, r2, r3)) :
    Calls Tryd.prog 11 #[.string a0] w fun e w' => ∃ v0_ : Value, e = .returned (.tuple #[v0_, .agg #[.int .i64 r2, .int .i64 r3]]) ∧ Kd.R k36 36 w' w.heap.size (fun _ => True) v0_ r1 ∧ Below w.heap.size w w' := by
  have hu25 := Tryd.underlying25
  have hu36 := Tryd.underlying36
  have HB := Aside0.mk (Below.refl w.heap.size w)
  have H : (if (a0.size : Int) > 16384 then (some (([] : List (S36)), 16384, 3)) else (drogueref03_Lex.l0 k a0 (([] : List (S36))) 0)) = some (r1, r2, r3) := h
  clear h
  by_cases c2 : (a0.size : Int) > 16384
  · rw [if_pos c2] at H
    have c2b0 : decide (16384 < (a0.size : Int)) = true := decide_eq_true c2
    have c2b1 : decide (16384 < a0.size) = true := decide_eq_true (by omega)
    clear c2
    simp only [Option.some.injEq, Prod.mk.injEq] at H
    obtain ⟨rfl, rfl, rfl⟩ := H
    go_enter Tryd.func11, Tryd.ntmps11
    go_wp2_with (first | ((with_reducible refine gate_dst (N := 3) rfl ?_); refine box_event ?hg (N := 3) ?hd (cs := #[.int .i64 0, .int .i64 0]) (t := 25) ?hr ?_; (case hd => rfl); (case hg => rfl); (case hr => first | (go_simp; done) | (go_simp; rfl)); intro gb109 hg w3 hbox hb; have n0_ := Aside0.mk (below_step (by repeat (first | (with_reducible first | exact HB.out | apply below_alloc | apply pw_below_drewN | apply below_drew1) | exact HB.out)) hb); have n1_ := Aside0.mk (hbox); have n2_ := Aside0.mk ((by rw [hg]; exact (below_size (by repeat (first | (with_reducible first | exact HB.out | apply below_alloc | apply pw_below_drewN | apply below_drew1) | exact HB.out))) : w.heap.size ≤ gb109)); have n3_ := Aside0.mk ((by rw [hg]; exact (below_size (by repeat (first | (with_reducible first | exact HB.out | apply below_alloc | apply pw_below_drewN | apply below_drew1) | exact HB.out))) : w.heap.size ≤ gb109)); clear HB; have HB := n0_; have BK109 := n1_; have GW109 := n2_; have GE109 := n3_; clear n0_ n1_ n2_ n3_; clear hb hbox hg; have hcz4_0 : w3.cell? ⟨gb109, 0, none⟩ = some (.int .i64 0) := (blk_cell BK109.out 0).trans rfl; have hcz4_1 : w3.cell? ⟨gb109, 1, none⟩ = some (.int .i64 0) := (blk_cell BK109.out 1).trans rfl; have hfz4_0 := blk_frozen BK109.out 0; have hfz4_1 := blk_frozen BK109.out 1))
    refine bodyPost_ret (results_tc rfl _ _ gb109 25 #[.int .i64 16384, .int .i64 3] (0, 0) _ rfl (by (with_reducible repeat (first | refine blk_drewN ?_ _ | refine blk_drew ?_ | refine blk_alloc ?_ _)); refine blk_put (cs := #[.int .i64 16384, .int .i64 0]) ?_ 1 _ rfl; (with_reducible repeat (first | refine blk_drewN ?_ _ | refine blk_drew ?_ | refine blk_alloc ?_ _)); refine blk_put (cs := #[.int .i64 0, .int .i64 0]) ?_ 0 _ rfl; (with_reducible repeat (first | refine blk_drewN ?_ _ | refine blk_drew ?_ | refine blk_alloc ?_ _)); exact BK109.out) Tryd.underlying25 rfl (by kernel_rfl)) rfl ?_
    exact ⟨_, by first | rfl | (simp [errW_none, errW_some] <;> rfl) | (simp [*, errW_none, errW_some] <;> rfl), by first | exact Kd.R_nil _ _ _ _ _ | exact Kd.N_nil _ _ _ _ _ | exact Kd.V_nil _ _ _ _ _ | exact Kd.Q_nil _ _ _ _ _ | exact Kd.S_nil _ _ _ _ _, by repeat (first | (with_reducible first | exact HB.out | apply below_alloc | apply pw_below_drewN | apply below_drew1 | refine below_set ?_ GE109.out) | exact HB.out)⟩
  · rw [if_neg c2] at H
    have c2b0 : decide (16384 < (a0.size : Int)) = false := decide_eq_false c2
    have c2b1 : decide (16384 < a0.size) = false := decide_eq_false (by omega)
    clear c2
    obtain ⟨y110, hy110⟩ : ∃ y_ : List (S36), y_ = (([] : List (S36))) := ⟨_, rfl⟩
    replace H : (drogueref03_Lex.l0 k a0 y110 0) = some (r1, r2, r3) := by first | (rw [hy110]; with_reducible exact H) | (have H2_ := (Option.bind_some _ _).symm.trans H; rw [hy110]; with_reducible exact H2_) | (have H2_ := (Option.bind_some _ _).symm.trans H; with_reducible exact H2_) | with_reducible exact H | (rw [hy110]; exact H) | exact H
    have Ny110 := Aside0.mk hy110
    clear hy110
    have H' := Aside0.mk H
    clear H
    go_enter Tryd.func11, Tryd.ntmps11
    go_wp2_with (first | ((with_reducible refine gate_dst (N := 3) rfl ?_); refine box_event ?hg (N := 3) ?hd (cs := #[.int .i64 0, .int .i64 0]) (t := 25) ?hr ?_; (case hd => rfl); (case hg => rfl); (case hr => first | (go_simp; done) | (go_simp; rfl)); intro gb109 hg w5 hbox hb; have n0_ := Aside0.mk (below_step (by repeat (first | (with_reducible first | exact HB.out | apply below_alloc | apply pw_below_drewN | apply below_drew1) | exact HB.out)) hb); have n1_ := Aside0.mk (hbox); have n2_ := Aside0.mk ((by rw [hg]; exact (below_size (by repeat (first | (with_reducible first | exact HB.out | apply below_alloc | apply pw_below_drewN | apply below_drew1) | exact HB.out))) : w.heap.size ≤ gb109)); have n3_ := Aside0.mk ((by rw [hg]; exact (below_size (by repeat (first | (with_reducible first | exact HB.out | apply below_alloc | apply pw_below_drewN | apply below_drew1) | exact HB.out))) : w.heap.size ≤ gb109)); clear HB; have HB := n0_; have BK109 := n1_; have GW109 := n2_; have GE109 := n3_; clear n0_ n1_ n2_ n3_; clear hb hbox hg) | ((with_reducible refine gate_dst (N := 14) rfl ?_); refine Kd.R_lit k36 _ 36 ?hg (N := 14) ?hd (xs := ([] : List (S36))) (inner := []) (ok := fun _ => True) (okp := fun _ => True) ?hr ?hp (fun _ hk => hk) trivial (Below.refl _ _) (Nat.le_refl _) (by simp) ?_; (case hd => rfl); (case hg => rfl); (case hr => first | (go_simp; done) | (go_simp; rfl)); (case hp => exact (Reps.none _ _)); intro v111 w6 ho7 hb hg_ hnew_; clear hg_ hnew_; (first | rw [← Ny110.out] at ho7 | (simp only [Int.reduceToNat] at ho7; rw [← Ny110.out] at ho7)); have n0_ := Aside0.mk (Kd.R_lower ho7 (below_size (by repeat (first | (with_reducible first | exact HB.out | apply below_alloc | apply pw_below_drewN | apply below_drew1 | refine below_set ?_ GE109.out) | exact HB.out)))); have n1_ := Aside0.mk (blk_below (g := gb109) (o := .cells #[.int .i64 0, .int .i64 0] 25 (0, 0)) (by (with_reducible repeat (first | refine blk_drewN ?_ _ | refine blk_drew ?_ | refine blk_alloc ?_ _)); exact BK109.out) hb); have n2_ := Aside0.mk (below_step (by repeat (first | (with_reducible first | exact HB.out | apply below_alloc | apply pw_below_drewN | apply below_drew1 | refine below_set ?_ GE109.out) | exact HB.out)) hb); clear BK109; clear HB; have HO112 := n0_; have BK109 := n1_; have HB := n2_; clear n0_ n1_ n2_; clear hb ho7))
    go_loopg [4, 5] k (fun kq v4 v5 w' => ∃ (x4_1 : List (S36)) (x5_1 : Int) (x110000_1 : Int) (x110001_1 : Int), v5 = .int .i64 x5_1 ∧ Aside0 (drogueref03_Lex.l0 kq a0 x4_1 x5_1 = some (r1, r2, r3)) ∧ Aside0 (kq ≤ k) ∧ Aside0 (Kd.R k36 36 w' w.heap.size (fun _ => True) v4 x4_1) ∧ Aside0 (w'.heap[gb109]? = some (.cells #[.int .i64 x110000_1, .int .i64 x110001_1] 25 (0, 0))) ∧ Aside0 (Below w.heap.size w w'))
    case atStart => exact ⟨(y110), (0), (0), (0), (by first | rfl | (simp; done) | (simp [*]; done)), H', ⟨Nat.le_refl _⟩, ⟨by (with_reducible repeat (first | apply Kd.R_alloc | apply Kd.R_drewN | apply Kd.R_drew)); exact HO112.out⟩, ⟨by (with_reducible repeat (first | refine blk_drewN ?_ _ | refine blk_drew ?_ | refine blk_alloc ?_ _)); exact BK109.out⟩, ⟨by repeat (first | (with_reducible first | exact HB.out | apply below_alloc | apply pw_below_drewN | apply below_drew1 | refine below_set ?_ GE109.out) | exact HB.out)⟩⟩
    case round =>
      clear H'
      try clear c1
      try clear c2
      try clear c2b0
      try clear c2b1
      try clear p2
      try clear hcz4_0
      try clear hcz4_1
      try clear hfz4_0
      try clear hfz4_1
      obtain ⟨x4_1, x5_1, x110000_1, x110001_1, rfl, HA, HK1, HO_4, BK109, HB⟩ := hrel
      cases gk with
      | zero => exact absurd HA.out (by simp [drogueref03_Lex.l0])
      | succ k1 =>
        have H := HA.out
        clear HA
        simp only [drogueref03_Lex.l0] at H
        by_cases c8 : x5_1 < (a0.size : Int)
        · rw [if_pos c8] at H
          have c8b0 : decide (x5_1 < (a0.size : Int)) = true := decide_eq_true c8
          clear c8
          by_cases c9 : 0 ≤ x5_1
          · rw [if_pos c9] at H
            have c9b0 : decide (0 ≤ x5_1) = true := decide_eq_true c9
            clear c9
            have HC11 := Aside0.mk H
            clear H
            have p10 : 0 ≤ (x5_1 : Int) := of_decide_eq_true (by first | (with_reducible assumption) | assumption)
            have q10 : x5_1 < (a0.size : Int) := of_decide_eq_true (by first | (with_reducible assumption) | assumption)
            have hx10 := bt_at a0 x5_1
            replace p10 := eq_true p10
            replace q10 := eq_true q10
            go_upto_region 7 with (fail)
            go_cut [31] (fun v31 wc => ∃ (kq : Nat) (x31_10 : Bool), v31 = .bool x31_10 ∧ Aside0 (drogueref03_Lex.j1 kq a0 x4_1 x5_1 (bt a0 x5_1) x31_10 = some (r1, r2, r3)) ∧ Aside0 (kq ≤ k1) ∧ Aside0 (Kd.R k36 36 wc w.heap.size (fun _ => True) u4 x4_1) ∧ Aside0 (wc.heap[gb109]? = some (.cells #[.int .i64 x110000_1, .int .i64 x110001_1] 25 (0, 0))) ∧ Aside0 (Below w.heap.size w wc))
            case first =>
              have H := HC11.out
              clear HC11
              by_cases c12 : (bt a0 x5_1) = 32
              · rw [if_pos c12] at H
                have c12b0 : ((bt a0 x5_1) == 32) = true := beq_iff_eq.mpr c12
                have c12b1 : ((bt a0 x5_1) != 32) = false := bne_eq_false_iff_eq.mpr c12
                clear c12
                (first | rw [c12b0] | (simp only [i64_w, i32_w]; rw [c12b0]) | skip)
                have H' := Aside0.mk H
                clear H
                go_wp2
                go_meet
                case rel => exact ⟨_, (true), (by first | rfl | (simp; done) | (simp [*]; done)), H', ⟨by have := HK1.out; first | omega | exact Nat.le_refl _⟩, ⟨by (with_reducible repeat (first | apply Kd.R_alloc | apply Kd.R_drewN | apply Kd.R_drew)); exact HO_4.out⟩, ⟨by (with_reducible repeat (first | refine blk_drewN ?_ _ | refine blk_drew ?_ | refine blk_alloc ?_ _)); exact BK109.out⟩, ⟨by repeat (first | (with_reducible first | exact HB.out | apply below_alloc | apply pw_below_drewN | apply below_drew1 | refine below_set ?_ GE109.out) | exact HB.out)⟩⟩
              · rw [if_neg c12] at H
                have c12b0 : ((bt a0 x5_1) == 32) = false := beq_eq_false_iff_ne.mpr c12
                have c12b1 : ((bt a0 x5_1) != 32) = true := bne_iff_ne.mpr c12
                (first | rw [c12b0] | (simp only [i64_w, i32_w]; rw [c12b0]) | skip)
                by_cases c13 : (bt a0 x5_1) = 9
                · rw [if_pos c13] at H
                  have c13b0 : ((bt a0 x5_1) == 9) = true := beq_iff_eq.mpr c13
                  have c13b1 : ((bt a0 x5_1) != 9) = false := bne_eq_false_iff_eq.mpr c13
                  clear c13
                  have H' := Aside0.mk H
                  clear H
                  go_wp2
                  go_meet
                  case rel => exact ⟨_, (true), (by first | rfl | (simp; done) | (simp [*]; done)), H', ⟨by have := HK1.out; first | omega | exact Nat.le_refl _⟩, ⟨by (with_reducible repeat (first | apply Kd.R_alloc | apply Kd.R_drewN | apply Kd.R_drew)); exact HO_4.out⟩, ⟨by (with_reducible repeat (first | refine blk_drewN ?_ _ | refine blk_drew ?_ | refine blk_alloc ?_ _)); exact BK109.out⟩, ⟨by repeat (first | (with_reducible first | exact HB.out | apply below_alloc | apply pw_below_drewN | apply below_drew1 | refine below_set ?_ GE109.out) | exact HB.out)⟩⟩
                · rw [if_neg c13] at H
                  have c13b0 : ((bt a0 x5_1) == 9) = false := beq_eq_false_iff_ne.mpr c13
                  have c13b1 : ((bt a0 x5_1) != 9) = true := bne_iff_ne.mpr c13
                  have H' := Aside0.mk H
                  clear H
                  go_wp2
                  go_meet
                  case rel => exact ⟨_, (((bt a0 x5_1) == 10)), (by first | rfl | (simp; done) | (simp [*]; done)), H', ⟨by have := HK1.out; first | omega | exact Nat.le_refl _⟩, ⟨by (with_reducible repeat (first | apply Kd.R_alloc | apply Kd.R_drewN | apply Kd.R_drew)); exact HO_4.out⟩, ⟨by (with_reducible repeat (first | refine blk_drewN ?_ _ | refine blk_drew ?_ | refine blk_alloc ?_ _)); exact BK109.out⟩, ⟨by repeat (first | (with_reducible first | exact HB.out | apply below_alloc | apply pw_below_drewN | apply below_drew1 | refine below_set ?_ GE109.out) | exact HB.out)⟩⟩
            case rest =>
              clear HC11
              try clear c1
              try clear p1
              try clear q1
              try clear hx1
              try clear c2
              try clear c2b0
              try clear c2b1
              try clear p2
              try clear c8
              try clear c8b0
              try clear c9
              try clear c9b0
              try clear p10
              try clear q10
              try clear hx10
              try clear c11
              try clear c12
              try clear c12b0
              try clear c12b1
              try clear c13
              try clear c13b0
              try clear c13b1
              try clear hcz4_0
              try clear hcz4_1
              try clear hfz4_0
              try clear hfz4_1
              try clear p10
              try clear p2
              try clear q10
              obtain ⟨kq, x31_10, rfl, HA, HJ10, HO_4, BK109, HB⟩ := hcut
              cases kq with
              | zero => exact absurd HA.out (by simp [drogueref03_Lex.j1])
              | succ kj10 =>
                have H := HA.out
                clear HA
                simp only [drogueref03_Lex.j1] at H
                by_cases c14 : x31_10 = true
                · subst c14
                  have H1 : (drogueref03_Lex.l0 kj10 a0 x4_1 (wrap64 (x5_1 + 1))) = some (r1, r2, r3) := by rw [if_pos rfl] at H; exact H
                  clear H
                  have H := H1
                  clear H1
                  have H' := Aside0.mk H
                  clear H
                  go_wp2
                  go_roundg kj10
                  case measure => have := HK1.out; have := HJ10.out; omega
                  case rel => exact ⟨(x4_1), (wrap64 (x5_1 + 1)), (x110000_1), (x110001_1), (by first | rfl | (simp; done) | (simp [*]; done)), H', ⟨by have := HK1.out; have := HJ10.out; omega⟩, ⟨by (with_reducible repeat (first | apply Kd.R_alloc | apply Kd.R_drewN | apply Kd.R_drew)); exact HO_4.out⟩, ⟨by (with_reducible repeat (first | refine blk_drewN ?_ _ | refine blk_drew ?_ | refine blk_alloc ?_ _)); exact BK109.out⟩, ⟨by repeat (first | (with_reducible first | exact HB.out | apply below_alloc | apply pw_below_drewN | apply below_drew1 | refine below_set ?_ GE109.out) | exact HB.out)⟩⟩
                · replace c14 := Bool.eq_false_iff.mpr c14
                  subst c14
                  have H1 : (if (bt a0 x5_1) = 35 then (drogueref03_Lex.l1 kj10 a0 x4_1 x5_1) else ((drogueref03_letter.f (bt a0 x5_1)).bind fun t114 => (if t114 = true then (drogueref03_Lex.l2 kj10 a0 x4_1 x5_1 (wrap64 (x5_1 + 1)) 0 x5_1 (⟨#[]⟩ : ByteArray) 0) else ((drogueref03_digit.f (bt a0 x5_1)).bind fun t124 => (if t124 = true then (drogueref03_Lex.j5 kj10 a0 x4_1 x5_1 (bt a0 x5_1) (wrap64 (x5_1 + 1)) true true 0 x5_1 (⟨#[]⟩ : ByteArray) 0) else (drogueref03_Lex.j5 kj10 a0 x4_1 x5_1 (bt a0 x5_1) (wrap64 (x5_1 + 1)) true ((bt a0 x5_1) == 45) 0 x5_1 (⟨#[]⟩ : ByteArray) 0)))))) = some (r1, r2, r3) := by rw [if_neg (show ¬ (false = true) by decide)] at H; exact H
                  clear H
                  have H := H1
                  clear H1
                  by_cases c15 : (bt a0 x5_1) = 35
                  · rw [if_pos c15] at H
                    have c15b0 : ((bt a0 x5_1) == 35) = true := beq_iff_eq.mpr c15
                    have c15b1 : ((bt a0 x5_1) != 35) = false := bne_eq_false_iff_eq.mpr c15
                    clear c15
                    have H' := Aside0.mk H
                    clear H
                    go_wp2
                    go_loopg [5] kj10 (fun kq v5 w' => ∃ (x5_3 : Int), v5 = .int .i64 x5_3 ∧ Aside0 (drogueref03_Lex.l1 kq a0 x4_1 x5_3 = some (r1, r2, r3)) ∧ Aside0 (kq ≤ kj10) ∧ Aside0 (Kd.R k36 36 w' w.heap.size (fun _ => True) u4 x4_1) ∧ Aside0 (w'.heap[gb109]? = some (.cells #[.int .i64 x110000_1, .int .i64 x110001_1] 25 (0, 0))) ∧ Aside0 (Below w.heap.size w w'))
                    case atStart => exact ⟨(x5_1), (by first | rfl | (simp; done) | (simp [*]; done)), H', ⟨Nat.le_refl _⟩, ⟨by (with_reducible repeat (first | apply Kd.R_alloc | apply Kd.R_drewN | apply Kd.R_drew)); exact HO_4.out⟩, ⟨by (with_reducible repeat (first | refine blk_drewN ?_ _ | refine blk_drew ?_ | refine blk_alloc ?_ _)); exact BK109.out⟩, ⟨by repeat (first | (with_reducible first | exact HB.out | apply below_alloc | apply pw_below_drewN | apply below_drew1 | refine below_set ?_ GE109.out) | exact HB.out)⟩⟩
                    case round =>
                      clear H'
                      try clear c1
                      try clear p1
                      try clear q1
                      try clear hx1
                      try clear c2
                      try clear c2b0
                      try clear c2b1
                      try clear p2
                      try clear p6
                      try clear c8
                      try clear c8b0
                      try clear c9
                      try clear c9b0
                      try clear p10
                      try clear q10
                      try clear hx10
                      try clear c11
                      try clear c12
                      try clear c12b0
                      try clear c12b1
                      try clear c13
                      try clear c13b0
                      try clear c13b1
                      try clear c14
                      try clear c15
                      try clear c15b0
                      try clear c15b1
                      try clear hcz4_0
                      try clear hcz4_1
                      try clear hfz4_0
                      try clear hfz4_1
                      try clear p1
                      try clear p10
                      try clear p2
                      try clear q1
                      try clear q10
                      obtain ⟨x5_3, rfl, HA, HK3, HO_4, BK109, HB⟩ := hrel
                      cases gk with
                      | zero => exact absurd HA.out (by simp [drogueref03_Lex.l1])
                      | succ k3 =>
                        have H := HA.out
                        clear HA
                        simp only [drogueref03_Lex.l1] at H
                        by_cases c16 : x5_3 < (a0.size : Int)
                        · rw [if_pos c16] at H
                          have c16b0 : decide (x5_3 < (a0.size : Int)) = true := decide_eq_true c16
                          clear c16
                          by_cases c17 : 0 ≤ x5_3
                          · rw [if_pos c17] at H
                            have c17b0 : decide (0 ≤ x5_3) = true := decide_eq_true c17
                            clear c17
                            by_cases c19 : (bt a0 x5_3) = 10
                            · rw [if_pos c19] at H
                              have c19b0 : ((bt a0 x5_3) == 10) = true := beq_iff_eq.mpr c19
                              have c19b1 : ((bt a0 x5_3) != 10) = false := bne_eq_false_iff_eq.mpr c19
                              clear c19
                              have H' := Aside0.mk H
                              clear H
                              have p18 : 0 ≤ (x5_3 : Int) := of_decide_eq_true (by first | (with_reducible assumption) | assumption)
                              have q18 : x5_3 < (a0.size : Int) := of_decide_eq_true (by first | (with_reducible assumption) | assumption)
                              have hx18 := bt_at a0 x5_3
                              replace p18 := eq_true p18
                              replace q18 := eq_true q18
                              go_wp2
                              go_roundg k3
                              case measure => have := HK1.out; have := HJ10.out; have := HK3.out; omega
                              case rel => exact ⟨(x4_1), (x5_3), (x110000_1), (x110001_1), (by first | rfl | (simp; done) | (simp [*]; done)), H', ⟨by have := HK1.out; have := HJ10.out; have := HK3.out; omega⟩, ⟨by (with_reducible repeat (first | apply Kd.R_alloc | apply Kd.R_drewN | apply Kd.R_drew)); exact HO_4.out⟩, ⟨by (with_reducible repeat (first | refine blk_drewN ?_ _ | refine blk_drew ?_ | refine blk_alloc ?_ _)); exact BK109.out⟩, ⟨by repeat (first | (with_reducible first | exact HB.out | apply below_alloc | apply pw_below_drewN | apply below_drew1 | refine below_set ?_ GE109.out) | exact HB.out)⟩⟩
                            · rw [if_neg c19] at H
                              have c19b0 : ((bt a0 x5_3) == 10) = false := beq_eq_false_iff_ne.mpr c19
                              have c19b1 : ((bt a0 x5_3) != 10) = true := bne_iff_ne.mpr c19
                              have H' := Aside0.mk H
                              clear H
                              have p18 : 0 ≤ (x5_3 : Int) := of_decide_eq_true (by first | (with_reducible assumption) | assumption)
                              have q18 : x5_3 < (a0.size : Int) := of_decide_eq_true (by first | (with_reducible assumption) | assumption)
                              have hx18 := bt_at a0 x5_3
                              replace p18 := eq_true p18
                              replace q18 := eq_true q18
                              go_wp2
                              go_roundg k3
                              case measure => have := HK1.out; have := HJ10.out; have := HK3.out; omega
                              case rel => exact ⟨(wrap64 (x5_3 + 1)), (by first | rfl | (simp; done) | (simp [*]; done)), H', ⟨by have := HK1.out; have := HJ10.out; have := HK3.out; omega⟩, ⟨by (with_reducible repeat (first | apply Kd.R_alloc | apply Kd.R_drewN | apply Kd.R_drew)); exact HO_4.out⟩, ⟨by (with_reducible repeat (first | refine blk_drewN ?_ _ | refine blk_drew ?_ | refine blk_alloc ?_ _)); exact BK109.out⟩, ⟨by repeat (first | (with_reducible first | exact HB.out | apply below_alloc | apply pw_below_drewN | apply below_drew1 | refine below_set ?_ GE109.out) | exact HB.out)⟩⟩
                          · rw [if_neg c17] at H
                            exact absurd H (by simp)
                        · rw [if_neg c16] at H
                          have c16b0 : decide (x5_3 < (a0.size : Int)) = false := decide_eq_false c16
                          clear c16
                          have H' := Aside0.mk H
                          clear H
                          go_wp2
                          go_roundg k3
                          case measure => have := HK1.out; have := HJ10.out; have := HK3.out; omega
                          case rel => exact ⟨(x4_1), (x5_3), (x110000_1), (x110001_1), (by first | rfl | (simp; done) | (simp [*]; done)), H', ⟨by have := HK1.out; have := HJ10.out; have := HK3.out; omega⟩, ⟨by (with_reducible repeat (first | apply Kd.R_alloc | apply Kd.R_drewN | apply Kd.R_drew)); exact HO_4.out⟩, ⟨by (with_reducible repeat (first | refine blk_drewN ?_ _ | refine blk_drew ?_ | refine blk_alloc ?_ _)); exact BK109.out⟩, ⟨by repeat (first | (with_reducible first | exact HB.out | apply below_alloc | apply pw_below_drewN | apply below_drew1 | refine below_set ?_ GE109.out) | exact HB.out)⟩⟩
                  · rw [if_neg c15] at H
                    have c15b0 : ((bt a0 x5_1) == 35) = false := beq_eq_false_iff_ne.mpr c15
                    have c15b1 : ((bt a0 x5_1) != 35) = true := bne_iff_ne.mpr c15
                    replace H := Option.bind_eq_some_iff.mp H
                    obtain ⟨t114, A200, H⟩ := H
                    replace H : (if t114 = true then (drogueref03_Lex.l2 kj10 a0 x4_1 x5_1 (wrap64 (x5_1 + 1)) 0 x5_1 (⟨#[]⟩ : ByteArray) 0) else ((drogueref03_digit.f (bt a0 x5_1)).bind fun t124 => (if t124 = true then (drogueref03_Lex.j5 kj10 a0 x4_1 x5_1 (bt a0 x5_1) (wrap64 (x5_1 + 1)) true true 0 x5_1 (⟨#[]⟩ : ByteArray) 0) else (drogueref03_Lex.j5 kj10 a0 x4_1 x5_1 (bt a0 x5_1) (wrap64 (x5_1 + 1)) true ((bt a0 x5_1) == 45) 0 x5_1 (⟨#[]⟩ : ByteArray) 0)))) = some (r1, r2, r3) := H
                    have A20 := Aside0.mk A200
                    clear A200
                    by_cases c21 : t114 = true
                    · subst c21
                      have H1 : (drogueref03_Lex.l2 kj10 a0 x4_1 x5_1 (wrap64 (x5_1 + 1)) 0 x5_1 (⟨#[]⟩ : ByteArray) 0) = some (r1, r2, r3) := by rw [if_pos rfl] at H; exact H
                      clear H
                      have H := H1
                      clear H1
                      have HC22 := Aside0.mk H
                      clear H
                      go_upto_block 5 with (first | ((with_reducible refine gate_dst (N := 8) rfl ?_); refine box_event ?hg (N := 8) ?hd (cs := #[.int .i64 0, .int .i64 0, .string (⟨#[]⟩ : ByteArray), .int .i64 0]) (t := 36) ?hr ?_; (case hd => rfl); (case hg => rfl); (case hr => first | (go_simp; done) | (go_simp; rfl)); intro gb113 hg w23 hbox hb; have n0_ := Aside0.mk (Kd.R_below (Kd.R_elderB (by (with_reducible repeat (first | apply Kd.R_alloc | apply Kd.R_drewN | apply Kd.R_drew)); exact HO_4.out) gb113 (Nat.le_of_eq hg.symm)) hb); have n1_ := Aside0.mk (blk_below (g := gb109) (o := .cells #[.int .i64 x110000_1, .int .i64 x110001_1] 25 (0, 0)) (by (with_reducible repeat (first | refine blk_drewN ?_ _ | refine blk_drew ?_ | refine blk_alloc ?_ _)); exact BK109.out) hb); have n2_ := Aside0.mk (below_step (by repeat (first | (with_reducible first | exact HB.out | apply below_alloc | apply pw_below_drewN | apply below_drew1 | refine below_set ?_ GE109.out) | exact HB.out)) hb); have n3_ := Aside0.mk (hbox); have n4_ := Aside0.mk ((by rw [hg]; exact (below_size (by repeat (first | (with_reducible first | exact HB.out | apply below_alloc | apply pw_below_drewN | apply below_drew1 | refine below_set ?_ GE109.out) | exact HB.out))) : w.heap.size ≤ gb113)); have n5_ := Aside0.mk ((by rw [hg]; exact (below_size (by repeat (first | (with_reducible first | exact HB.out | apply below_alloc | apply pw_below_drewN | apply below_drew1 | refine below_set ?_ GE109.out) | exact HB.out))) : w.heap.size ≤ gb113)); have n6_ := Aside0.mk ((by rw [hg]; exact Nat.ne_of_lt (blk_lt (g := gb109) (o := .cells #[.int .i64 x110000_1, .int .i64 x110001_1] 25 (0, 0)) (by (with_reducible repeat (first | refine blk_drewN ?_ _ | refine blk_drew ?_ | refine blk_alloc ?_ _)); exact BK109.out)) : gb109 ≠ gb113)); have n7_ := Aside0.mk ((by rw [hg]; exact Nat.ne_of_gt (blk_lt (g := gb109) (o := .cells #[.int .i64 x110000_1, .int .i64 x110001_1] 25 (0, 0)) (by (with_reducible repeat (first | refine blk_drewN ?_ _ | refine blk_drew ?_ | refine blk_alloc ?_ _)); exact BK109.out)) : gb113 ≠ gb109)); clear HO_4; clear BK109; clear HB; have HO_4 := n0_; have BK109 := n1_; have HB := n2_; have BK113 := n3_; have GW113 := n4_; have GE113 := n5_; have NB109_113 := n6_; have NB113_109 := n7_; clear n0_ n1_ n2_ n3_ n4_ n5_ n6_ n7_; clear hb hbox hg; have hnb24 := NB113_109.out; have hnc24 := NB109_113.out; have hcz25_0 : w23.cell? ⟨gb113, 0, none⟩ = some (.int .i64 0) := (blk_cell BK113.out 0).trans rfl; have hcz25_1 : w23.cell? ⟨gb113, 1, none⟩ = some (.int .i64 0) := (blk_cell BK113.out 1).trans rfl; have hcz25_2 : w23.cell? ⟨gb113, 2, none⟩ = some (.string (⟨#[]⟩ : ByteArray)) := (blk_cell BK113.out 2).trans rfl; have hcz25_3 : w23.cell? ⟨gb113, 3, none⟩ = some (.int .i64 0) := (blk_cell BK113.out 3).trans rfl; have hfz25_0 := blk_frozen BK113.out 0; have hfz25_1 := blk_frozen BK113.out 1; have hfz25_2 := blk_frozen BK113.out 2; have hfz25_3 := blk_frozen BK113.out 3) | ((with_reducible refine gate_callee (f := 21) rfl ?_); refine goesL_ (some 54) rfl rfl Tryd.func21 (by kernel_rfl) rfl #[.int .u8 (bt a0 x5_1)] rfl (by (try simp only [List.map_toArray, List.map_cons, List.map_nil]); first | done | rfl | (simp only [List.length_drop, List.length_take]; rfl)) ?_; (with_reducible refine (drogueref03_letter.calls (bt a0 x5_1) true _ A20.out).mono ?_); rintro e w' ⟨rfl, ⟨nd, rfl⟩⟩; refine ⟨_, rfl, ?_⟩))
                      (try simp only [Act.put, List.setIfInBounds_toArray, List.set_cons_zero, List.set_cons_succ])
                      go_cut [7] (fun v7 wc => ∃ (kq : Nat) (x7_21 : Int), v7 = .int .i64 x7_21 ∧ Aside0 (drogueref03_Lex.j4 kq a0 x4_1 x5_1 x7_21 0 x5_1 (⟨#[]⟩ : ByteArray) 0 = some (r1, r2, r3)) ∧ Aside0 (kq ≤ kj10) ∧ Aside0 (Kd.R k36 36 wc w.heap.size (fun k_ => k_ ≠ gb113) u4 x4_1) ∧ Aside0 (wc.heap[gb109]? = some (.cells #[.int .i64 x110000_1, .int .i64 x110001_1] 25 (0, 0))) ∧ Aside0 (wc.heap[gb113]? = some (.cells #[.int .i64 0, .int .i64 x5_1, .string (⟨#[]⟩ : ByteArray), .int .i64 0] 36 (0, 0))) ∧ Aside0 (Below w.heap.size w wc))
                      case first =>
                        have H := HC22.out
                        clear HC22
                        have H' := Aside0.mk H
                        clear H
                        go_wp2
                        go_loopg [7] kj10 (fun kq v7 w' => ∃ (x7_3 : Int), v7 = .int .i64 x7_3 ∧ Aside0 (drogueref03_Lex.l2 kq a0 x4_1 x5_1 x7_3 0 x5_1 (⟨#[]⟩ : ByteArray) 0 = some (r1, r2, r3)) ∧ Aside0 (kq ≤ kj10) ∧ Aside0 (Kd.R k36 36 w' w.heap.size (fun k_ => k_ ≠ gb113) u4 x4_1) ∧ Aside0 (w'.heap[gb109]? = some (.cells #[.int .i64 x110000_1, .int .i64 x110001_1] 25 (0, 0))) ∧ Aside0 (w'.heap[gb113]? = some (.cells #[.int .i64 0, .int .i64 x5_1, .string (⟨#[]⟩ : ByteArray), .int .i64 0] 36 (0, 0))) ∧ Aside0 (Below w.heap.size w w'))
                        case atStart => exact ⟨(wrap64 (x5_1 + 1)), (by first | rfl | (simp; done) | (simp [*]; done)), H', ⟨Nat.le_refl _⟩, ⟨by (with_reducible repeat (first | apply Kd.R_alloc | apply Kd.R_drewN | apply Kd.R_drew)); exact Kd.R_mono (Kd.R_far (p := ⟨gb113, 3, none⟩) (Kd.R_far (p := ⟨gb113, 2, none⟩) (Kd.R_far (p := ⟨gb113, 1, none⟩) (Kd.R_far (p := ⟨gb113, 0, none⟩) (Kd.R_mono HO_4.out (fun k_ hk => (⟨hk, hk.2⟩ : _ ∧ k_ ≠ gb113))) (fun _ hk => hk.2) (.int .i64 0)) (fun _ hk => hk.2) (.int .i64 x5_1)) (fun _ hk => hk.2) (.string (⟨#[]⟩ : ByteArray))) (fun _ hk => hk.2) (.int .i64 0)) (fun _ hk => hk.1.2)⟩, ⟨by (with_reducible repeat (first | refine blk_drewN ?_ _ | refine blk_drew ?_ | refine blk_alloc ?_ _)); refine blk_far ?_ NB109_113.out _; (with_reducible repeat (first | refine blk_drewN ?_ _ | refine blk_drew ?_ | refine blk_alloc ?_ _)); refine blk_far ?_ NB109_113.out _; (with_reducible repeat (first | refine blk_drewN ?_ _ | refine blk_drew ?_ | refine blk_alloc ?_ _)); refine blk_far ?_ NB109_113.out _; (with_reducible repeat (first | refine blk_drewN ?_ _ | refine blk_drew ?_ | refine blk_alloc ?_ _)); refine blk_far ?_ NB109_113.out _; (with_reducible repeat (first | refine blk_drewN ?_ _ | refine blk_drew ?_ | refine blk_alloc ?_ _)); exact BK109.out⟩, ⟨by (with_reducible repeat (first | refine blk_drewN ?_ _ | refine blk_drew ?_ | refine blk_alloc ?_ _)); refine blk_put (cs := #[.int .i64 0, .int .i64 x5_1, .string (⟨#[]⟩ : ByteArray), .int .i64 0]) ?_ 3 _ rfl; (with_reducible repeat (first | refine blk_drewN ?_ _ | refine blk_drew ?_ | refine blk_alloc ?_ _)); refine blk_put (cs := #[.int .i64 0, .int .i64 x5_1, .string (⟨#[]⟩ : ByteArray), .int .i64 0]) ?_ 2 _ rfl; (with_reducible repeat (first | refine blk_drewN ?_ _ | refine blk_drew ?_ | refine blk_alloc ?_ _)); refine blk_put (cs := #[.int .i64 0, .int .i64 0, .string (⟨#[]⟩ : ByteArray), .int .i64 0]) ?_ 1 _ rfl; (with_reducible repeat (first | refine blk_drewN ?_ _ | refine blk_drew ?_ | refine blk_alloc ?_ _)); refine blk_put (cs := #[.int .i64 0, .int .i64 0, .string (⟨#[]⟩ : ByteArray), .int .i64 0]) ?_ 0 _ rfl; (with_reducible repeat (first | refine blk_drewN ?_ _ | refine blk_drew ?_ | refine blk_alloc ?_ _)); exact BK113.out⟩, ⟨by repeat (first | (with_reducible first | exact HB.out | apply below_alloc | apply pw_below_drewN | apply below_drew1 | refine below_set ?_ GE109.out | refine below_set ?_ GE113.out) | exact HB.out)⟩⟩
                        case round =>
                          clear H'
                          try clear c1
                          try clear p1
                          try clear q1
                          try clear hx1
                          try clear c2
                          try clear c2b0
                          try clear c2b1
                          try clear p2
                          try clear p6
                          try clear c8
                          try clear c8b0
                          try clear c9
                          try clear c9b0
                          try clear p10
                          try clear q10
                          try clear hx10
                          try clear c11
                          try clear c12
                          try clear c12b0
                          try clear c12b1
                          try clear c13
                          try clear c13b0
                          try clear c13b1
                          try clear c14
                          try clear c15
                          try clear c15b0
                          try clear c15b1
                          try clear c16
                          try clear c16b0
                          try clear c17
                          try clear c17b0
                          try clear p18
                          try clear q18
                          try clear hx18
                          try clear c19
                          try clear c19b0
                          try clear c19b1
                          try clear c21
                          try clear c24
                          try clear hcz25_0
                          try clear hcz25_1
                          try clear hcz25_2
                          try clear hcz25_3
                          try clear hcz4_0
                          try clear hcz4_1
                          try clear hfz25_0
                          try clear hfz25_1
                          try clear hfz25_2
                          try clear hfz25_3
                          try clear hfz4_0
                          try clear hfz4_1
                          try clear p1
                          try clear p10
                          try clear p18
                          try clear p2
                          try clear p6
                          try clear q1
                          try clear q10
                          try clear q18
                          obtain ⟨x7_3, rfl, HA, HK3, HO_4, BK109, BK113, HB⟩ := hrel
                          cases gk with
                          | zero => exact absurd HA.out (by simp [drogueref03_Lex.l2])
                          | succ k3 =>
                            have H := HA.out
                            clear HA
                            simp only [drogueref03_Lex.l2] at H
                            by_cases c26 : x7_3 < (a0.size : Int)
                            · rw [if_pos c26] at H
                              have c26b0 : decide (x7_3 < (a0.size : Int)) = true := decide_eq_true c26
                              clear c26
                              (first | rw [c26b0] | (simp only [i64_w, i32_w]; rw [c26b0]) | skip)
                              by_cases c27 : 0 ≤ x7_3
                              · rw [if_pos c27] at H
                                have c27b0 : decide (0 ≤ x7_3) = true := decide_eq_true c27
                                clear c27
                                replace H := Option.bind_eq_some_iff.mp H
                                obtain ⟨t115, A290, H⟩ := H
                                replace H : (if t115 = true then (drogueref03_Lex.l2 k3 a0 x4_1 x5_1 (wrap64 (x7_3 + 1)) 0 x5_1 (⟨#[]⟩ : ByteArray) 0) else ((drogueref03_digit.f (bt a0 x7_3)).bind fun t116 => (if t116 = true then (drogueref03_Lex.l2 k3 a0 x4_1 x5_1 (wrap64 (x7_3 + 1)) 0 x5_1 (⟨#[]⟩ : ByteArray) 0) else (if (bt a0 x7_3) = 95 then (drogueref03_Lex.l2 k3 a0 x4_1 x5_1 (wrap64 (x7_3 + 1)) 0 x5_1 (⟨#[]⟩ : ByteArray) 0) else (drogueref03_Lex.j4 k3 a0 x4_1 x5_1 x7_3 0 x5_1 (⟨#[]⟩ : ByteArray) 0))))) = some (r1, r2, r3) := H
                                have A29 := Aside0.mk A290
                                clear A290
                                by_cases c30 : t115 = true
                                · subst c30
                                  have H1 : (drogueref03_Lex.l2 k3 a0 x4_1 x5_1 (wrap64 (x7_3 + 1)) 0 x5_1 (⟨#[]⟩ : ByteArray) 0) = some (r1, r2, r3) := by rw [if_pos rfl] at H; exact H
                                  clear H
                                  have H := H1
                                  clear H1
                                  have H' := Aside0.mk H
                                  clear H
                                  have p28 : 0 ≤ (x7_3 : Int) := of_decide_eq_true (by first | (with_reducible assumption) | assumption)
                                  have q28 : x7_3 < (a0.size : Int) := of_decide_eq_true (by first | (with_reducible assumption) | assumption)
                                  have hx28 := bt_at a0 x7_3
                                  replace p28 := eq_true p28
                                  replace q28 := eq_true q28
                                  go_wp2_with (first | (go_at_call 21; (with_reducible refine (drogueref03_letter.calls (bt a0 x7_3) true _ A29.out).mono ?_); rintro e w' ⟨rfl, ⟨nd, rfl⟩⟩))
                                  go_roundg k3
                                  case measure => have := HK1.out; have := HJ10.out; have := HK3.out; omega
                                  case rel => exact ⟨(wrap64 (x7_3 + 1)), (by first | rfl | (simp; done) | (simp [*]; done)), H', ⟨by have := HK1.out; have := HJ10.out; have := HK3.out; omega⟩, ⟨by (with_reducible repeat (first | apply Kd.R_alloc | apply Kd.R_drewN | apply Kd.R_drew)); exact HO_4.out⟩, ⟨by (with_reducible repeat (first | refine blk_drewN ?_ _ | refine blk_drew ?_ | refine blk_alloc ?_ _)); exact BK109.out⟩, ⟨by (with_reducible repeat (first | refine blk_drewN ?_ _ | refine blk_drew ?_ | refine blk_alloc ?_ _)); exact BK113.out⟩, ⟨by repeat (first | (with_reducible first | exact HB.out | apply below_alloc | apply pw_below_drewN | apply below_drew1 | refine below_set ?_ GE109.out | refine below_set ?_ GE113.out) | exact HB.out)⟩⟩
                                · replace c30 := Bool.eq_false_iff.mpr c30
                                  subst c30
                                  have H1 : ((drogueref03_digit.f (bt a0 x7_3)).bind fun t116 => (if t116 = true then (drogueref03_Lex.l2 k3 a0 x4_1 x5_1 (wrap64 (x7_3 + 1)) 0 x5_1 (⟨#[]⟩ : ByteArray) 0) else (if (bt a0 x7_3) = 95 then (drogueref03_Lex.l2 k3 a0 x4_1 x5_1 (wrap64 (x7_3 + 1)) 0 x5_1 (⟨#[]⟩ : ByteArray) 0) else (drogueref03_Lex.j4 k3 a0 x4_1 x5_1 x7_3 0 x5_1 (⟨#[]⟩ : ByteArray) 0)))) = some (r1, r2, r3) := by rw [if_neg (show ¬ (false = true) by decide)] at H; exact H
                                  clear H
                                  have H := H1
                                  clear H1
                                  replace H := Option.bind_eq_some_iff.mp H
                                  obtain ⟨t116, A320, H⟩ := H
                                  replace H : (if t116 = true then (drogueref03_Lex.l2 k3 a0 x4_1 x5_1 (wrap64 (x7_3 + 1)) 0 x5_1 (⟨#[]⟩ : ByteArray) 0) else (if (bt a0 x7_3) = 95 then (drogueref03_Lex.l2 k3 a0 x4_1 x5_1 (wrap64 (x7_3 + 1)) 0 x5_1 (⟨#[]⟩ : ByteArray) 0) else (drogueref03_Lex.j4 k3 a0 x4_1 x5_1 x7_3 0 x5_1 (⟨#[]⟩ : ByteArray) 0))) = some (r1, r2, r3) := H
                                  have A32 := Aside0.mk A320
                                  clear A320
                                  by_cases c33 : t116 = true
                                  · subst c33
                                    have H1 : (drogueref03_Lex.l2 k3 a0 x4_1 x5_1 (wrap64 (x7_3 + 1)) 0 x5_1 (⟨#[]⟩ : ByteArray) 0) = some (r1, r2, r3) := by rw [if_pos rfl] at H; exact H
                                    clear H
                                    have H := H1
                                    clear H1
                                    have H' := Aside0.mk H
                                    clear H
                                    have p28 : 0 ≤ (x7_3 : Int) := of_decide_eq_true (by first | (with_reducible assumption) | assumption)
                                    have q28 : x7_3 < (a0.size : Int) := of_decide_eq_true (by first | (with_reducible assumption) | assumption)
                                    have hx28 := bt_at a0 x7_3
                                    replace p28 := eq_true p28
                                    replace q28 := eq_true q28
                                    go_wp2_with (first | (go_at_call 21; (with_reducible refine (drogueref03_letter.calls (bt a0 x7_3) false _ A29.out).mono ?_); rintro e w' ⟨rfl, ⟨nd, rfl⟩⟩; have p31 : 0 ≤ (x7_3 : Int) := of_decide_eq_true (by first | (with_reducible assumption) | assumption); have q31 : x7_3 < (a0.size : Int) := of_decide_eq_true (by first | (with_reducible assumption) | assumption); have hx31 := bt_at a0 x7_3; replace p31 := eq_true p31; replace q31 := eq_true q31) | (go_at_call 22; (with_reducible refine (drogueref03_digit.calls (bt a0 x7_3) true _ A32.out).mono ?_); rintro e w' ⟨rfl, ⟨nd, rfl⟩⟩))
                                    go_roundg k3
                                    case measure => have := HK1.out; have := HJ10.out; have := HK3.out; omega
                                    case rel => exact ⟨(wrap64 (x7_3 + 1)), (by first | rfl | (simp; done) | (simp [*]; done)), H', ⟨by have := HK1.out; have := HJ10.out; have := HK3.out; omega⟩, ⟨by (with_reducible repeat (first | apply Kd.R_alloc | apply Kd.R_drewN | apply Kd.R_drew)); exact HO_4.out⟩, ⟨by (with_reducible repeat (first | refine blk_drewN ?_ _ | refine blk_drew ?_ | refine blk_alloc ?_ _)); exact BK109.out⟩, ⟨by (with_reducible repeat (first | refine blk_drewN ?_ _ | refine blk_drew ?_ | refine blk_alloc ?_ _)); exact BK113.out⟩, ⟨by repeat (first | (with_reducible first | exact HB.out | apply below_alloc | apply pw_below_drewN | apply below_drew1 | refine below_set ?_ GE109.out | refine below_set ?_ GE113.out) | exact HB.out)⟩⟩
                                  · replace c33 := Bool.eq_false_iff.mpr c33
                                    subst c33
                                    have H1 : (if (bt a0 x7_3) = 95 then (drogueref03_Lex.l2 k3 a0 x4_1 x5_1 (wrap64 (x7_3 + 1)) 0 x5_1 (⟨#[]⟩ : ByteArray) 0) else (drogueref03_Lex.j4 k3 a0 x4_1 x5_1 x7_3 0 x5_1 (⟨#[]⟩ : ByteArray) 0)) = some (r1, r2, r3) := by rw [if_neg (show ¬ (false = true) by decide)] at H; exact H
                                    clear H
                                    have H := H1
                                    clear H1
                                    by_cases c35 : (bt a0 x7_3) = 95
                                    · rw [if_pos c35] at H
                                      have c35b0 : ((bt a0 x7_3) == 95) = true := beq_iff_eq.mpr c35
                                      have c35b1 : ((bt a0 x7_3) != 95) = false := bne_eq_false_iff_eq.mpr c35
                                      clear c35
                                      have H' := Aside0.mk H
                                      clear H
                                      have p28 : 0 ≤ (x7_3 : Int) := of_decide_eq_true (by first | (with_reducible assumption) | assumption)
                                      have q28 : x7_3 < (a0.size : Int) := of_decide_eq_true (by first | (with_reducible assumption) | assumption)
                                      have hx28 := bt_at a0 x7_3
                                      replace p28 := eq_true p28
                                      replace q28 := eq_true q28
                                      go_wp2_with (first | (go_at_call 21; (with_reducible refine (drogueref03_letter.calls (bt a0 x7_3) false _ A29.out).mono ?_); rintro e w' ⟨rfl, ⟨nd, rfl⟩⟩; have p31 : 0 ≤ (x7_3 : Int) := of_decide_eq_true (by first | (with_reducible assumption) | assumption); have q31 : x7_3 < (a0.size : Int) := of_decide_eq_true (by first | (with_reducible assumption) | assumption); have hx31 := bt_at a0 x7_3; replace p31 := eq_true p31; replace q31 := eq_true q31) | (go_at_call 22; (with_reducible refine (drogueref03_digit.calls (bt a0 x7_3) false _ A32.out).mono ?_); rintro e w' ⟨rfl, ⟨nd, rfl⟩⟩; have p34 : 0 ≤ (x7_3 : Int) := of_decide_eq_true (by first | (with_reducible assumption) | assumption); have q34 : x7_3 < (a0.size : Int) := of_decide_eq_true (by first | (with_reducible assumption) | assumption); have hx34 := bt_at a0 x7_3; replace p34 := eq_true p34; replace q34 := eq_true q34))
                                      go_roundg k3
                                      case measure => have := HK1.out; have := HJ10.out; have := HK3.out; omega
                                      case rel => exact ⟨(wrap64 (x7_3 + 1)), (by first | rfl | (simp; done) | (simp [*]; done)), H', ⟨by have := HK1.out; have := HJ10.out; have := HK3.out; omega⟩, ⟨by (with_reducible repeat (first | apply Kd.R_alloc | apply Kd.R_drewN | apply Kd.R_drew)); exact HO_4.out⟩, ⟨by (with_reducible repeat (first | refine blk_drewN ?_ _ | refine blk_drew ?_ | refine blk_alloc ?_ _)); exact BK109.out⟩, ⟨by (with_reducible repeat (first | refine blk_drewN ?_ _ | refine blk_drew ?_ | refine blk_alloc ?_ _)); exact BK113.out⟩, ⟨by repeat (first | (with_reducible first | exact HB.out | apply below_alloc | apply pw_below_drewN | apply below_drew1 | refine below_set ?_ GE109.out | refine below_set ?_ GE113.out) | exact HB.out)⟩⟩
                                    · rw [if_neg c35] at H
                                      have c35b0 : ((bt a0 x7_3) == 95) = false := beq_eq_false_iff_ne.mpr c35
                                      have c35b1 : ((bt a0 x7_3) != 95) = true := bne_iff_ne.mpr c35
                                      have H' := Aside0.mk H
                                      clear H
                                      have p28 : 0 ≤ (x7_3 : Int) := of_decide_eq_true (by first | (with_reducible assumption) | assumption)
                                      have q28 : x7_3 < (a0.size : Int) := of_decide_eq_true (by first | (with_reducible assumption) | assumption)
                                      have hx28 := bt_at a0 x7_3
                                      replace p28 := eq_true p28
                                      replace q28 := eq_true q28
                                      go_wp2_with (first | (go_at_call 21; (with_reducible refine (drogueref03_letter.calls (bt a0 x7_3) false _ A29.out).mono ?_); rintro e w' ⟨rfl, ⟨nd, rfl⟩⟩; have p31 : 0 ≤ (x7_3 : Int) := of_decide_eq_true (by first | (with_reducible assumption) | assumption); have q31 : x7_3 < (a0.size : Int) := of_decide_eq_true (by first | (with_reducible assumption) | assumption); have hx31 := bt_at a0 x7_3; replace p31 := eq_true p31; replace q31 := eq_true q31) | (go_at_call 22; (with_reducible refine (drogueref03_digit.calls (bt a0 x7_3) false _ A32.out).mono ?_); rintro e w' ⟨rfl, ⟨nd, rfl⟩⟩; have p34 : 0 ≤ (x7_3 : Int) := of_decide_eq_true (by first | (with_reducible assumption) | assumption); have q34 : x7_3 < (a0.size : Int) := of_decide_eq_true (by first | (with_reducible assumption) | assumption); have hx34 := bt_at a0 x7_3; replace p34 := eq_true p34; replace q34 := eq_true q34))
                                      go_meet
                                      case rel => exact ⟨_, (x7_3), (by first | rfl | (simp; done) | (simp [*]; done)), H', ⟨by have := HK1.out; have := HJ10.out; have := HK3.out; first | omega | exact Nat.le_refl _⟩, ⟨by (with_reducible repeat (first | apply Kd.R_alloc | apply Kd.R_drewN | apply Kd.R_drew)); exact HO_4.out⟩, ⟨by (with_reducible repeat (first | refine blk_drewN ?_ _ | refine blk_drew ?_ | refine blk_alloc ?_ _)); exact BK109.out⟩, ⟨by (with_reducible repeat (first | refine blk_drewN ?_ _ | refine blk_drew ?_ | refine blk_alloc ?_ _)); exact BK113.out⟩, ⟨by repeat (first | (with_reducible first | exact HB.out | apply below_alloc | apply pw_below_drewN | apply below_drew1 | refine below_set ?_ GE109.out | refine below_set ?_ GE113.out) | exact HB.out)⟩⟩
                              · rw [if_neg c27] at H
                                exact absurd H (by simp)
                            · rw [if_neg c26] at H
                              have c26b0 : decide (x7_3 < (a0.size : Int)) = false := decide_eq_false c26
                              clear c26
                              (first | rw [c26b0] | (simp only [i64_w, i32_w]; rw [c26b0]) | skip)
                              have H' := Aside0.mk H
                              clear H
                              go_wp2
                              go_meet
                              case rel => exact ⟨_, (x7_3), (by first | rfl | (simp; done) | (simp [*]; done)), H', ⟨by have := HK1.out; have := HJ10.out; have := HK3.out; first | omega | exact Nat.le_refl _⟩, ⟨by (with_reducible repeat (first | apply Kd.R_alloc | apply Kd.R_drewN | apply Kd.R_drew)); exact HO_4.out⟩, ⟨by (with_reducible repeat (first | refine blk_drewN ?_ _ | refine blk_drew ?_ | refine blk_alloc ?_ _)); exact BK109.out⟩, ⟨by (with_reducible repeat (first | refine blk_drewN ?_ _ | refine blk_drew ?_ | refine blk_alloc ?_ _)); exact BK113.out⟩, ⟨by repeat (first | (with_reducible first | exact HB.out | apply below_alloc | apply pw_below_drewN | apply below_drew1 | refine below_set ?_ GE109.out | refine below_set ?_ GE113.out) | exact HB.out)⟩⟩
                      case rest =>
                        clear HC22
                        try clear c1
                        try clear p1
                        try clear q1
                        try clear hx1
                        try clear c2
                        try clear c2b0
                        try clear c2b1
                        try clear p2
                        try clear q2
                        try clear hx2
                        try clear c3
                        try clear p3
                        try clear q3
                        try clear hx3
                        try clear p6
                        try clear c8
                        try clear c8b0
                        try clear c9
                        try clear c9b0
                        try clear p10
                        try clear q10
                        try clear hx10
                        try clear c11
                        try clear c12
                        try clear c12b0
                        try clear c12b1
                        try clear c13
                        try clear c13b0
                        try clear c13b1
                        try clear c14
                        try clear c15
                        try clear c15b0
                        try clear c15b1
                        try clear c16
                        try clear c16b0
                        try clear c17
                        try clear c17b0
                        try clear p18
                        try clear q18
                        try clear hx18
                        try clear c19
                        try clear c19b0
                        try clear c19b1
                        try clear c21
                        try clear c24
                        try clear c26
                        try clear c26b0
                        try clear c27
                        try clear c27b0
                        try clear p28
                        try clear q28
                        try clear hx28
                        try clear c30
                        try clear p31
                        try clear q31
                        try clear hx31
                        try clear c33
                        try clear p34
                        try clear q34
                        try clear hx34
                        try clear c35
                        try clear c35b0
                        try clear c35b1
                        try clear hcz25_0
                        try clear hcz25_1
                        try clear hcz25_2
                        try clear hcz25_3
                        try clear hcz4_0
                        try clear hcz4_1
                        try clear hfz25_0
                        try clear hfz25_1
                        try clear hfz25_2
                        try clear hfz25_3
                        try clear hfz4_0
                        try clear hfz4_1
                        try clear p1
                        try clear p10
                        try clear p18
                        try clear p2
                        try clear p28
                        try clear p31
                        try clear p34
                        try clear p6
                        try clear q1
                        try clear q10
                        try clear q18
                        try clear q28
                        try clear q31
                        try clear q34
                        obtain ⟨kq, x7_21, rfl, HA, HJ21, HO_4, BK109, BK113, HB⟩ := hcut
                        cases kq with
                        | zero => exact absurd HA.out (by simp [drogueref03_Lex.j4])
                        | succ kj21 =>
                          have H := HA.out
                          clear HA
                          simp only [drogueref03_Lex.j4] at H
                          by_cases c36 : 0 ≤ x5_1
                          · rw [if_pos c36] at H
                            have c36b0 := eq_true c36
                            have c36b1 : decide (0 ≤ x5_1) = true := decide_eq_true c36
                            clear c36
                            by_cases c37 : x5_1 ≤ x7_21
                            · rw [if_pos c37] at H
                              have c37b0 := eq_true c37
                              have c37b1 : decide (x5_1 ≤ x7_21) = true := decide_eq_true c37
                              clear c37
                              by_cases c38 : x7_21 ≤ (a0.size : Int)
                              · rw [if_pos c38] at H
                                have c38b0 := eq_true c38
                                have c38b1 : decide (x7_21 ≤ (a0.size : Int)) = true := decide_eq_true c38
                                clear c38
                                replace H := Option.bind_eq_some_iff.mp H
                                obtain ⟨t117, A390, H⟩ := H
                                replace H : (if t117 = true then (if ((wrap64 (x7_21 - x5_1)) ≤ 16) then (if x4_1.length < 3518437208883 then (drogueref03_Lex.l0 kj21 a0 (x4_1 ++ [(⟨2, x5_1, a0.extract (x5_1 : Int).toNat (x7_21 : Int).toNat, 0⟩ : S36)]) x7_21) else (none)) else (some (([] : List (S36)), x5_1, 1))) else (if ((wrap64 (x7_21 - x5_1)) ≤ 16) then (if x4_1.length < 3518437208883 then (drogueref03_Lex.l0 kj21 a0 (x4_1 ++ [(⟨1, x5_1, a0.extract (x5_1 : Int).toNat (x7_21 : Int).toNat, 0⟩ : S36)]) x7_21) else (none)) else (some (([] : List (S36)), x5_1, 1)))) = some (r1, r2, r3) := H
                                have A39 := Aside0.mk A390
                                clear A390
                                by_cases c40 : t117 = true
                                · subst c40
                                  have H1 : (if ((wrap64 (x7_21 - x5_1)) ≤ 16) then (if x4_1.length < 3518437208883 then (drogueref03_Lex.l0 kj21 a0 (x4_1 ++ [(⟨2, x5_1, a0.extract (x5_1 : Int).toNat (x7_21 : Int).toNat, 0⟩ : S36)]) x7_21) else (none)) else (some (([] : List (S36)), x5_1, 1))) = some (r1, r2, r3) := by rw [if_pos rfl] at H; exact H
                                  clear H
                                  have H := H1
                                  clear H1
                                  by_cases c41 : ((wrap64 (x7_21 - x5_1)) ≤ 16)
                                  · rw [if_pos c41] at H
                                    have c41b0 : decide ((wrap64 (x7_21 - x5_1)) ≤ 16) = true := decide_eq_true c41
                                    clear c41
                                    have c42b0 := eq_true (of_decide_eq_true (by first | (with_reducible assumption) | assumption) : 0 ≤ x5_1)
                                    have c43b0 := eq_true (of_decide_eq_true (by first | (with_reducible assumption) | assumption) : x5_1 ≤ x7_21)
                                    have c44b0 := eq_true (of_decide_eq_true (by first | (with_reducible assumption) | assumption) : x7_21 ≤ (a0.size : Int))
                                    by_cases c45 : x4_1.length < 3518437208883
                                    · rw [if_pos c45] at H
                                      have LMc45 := Aside0.mk c45
                                      clear c45
                                      obtain ⟨y118, hy118⟩ : ∃ y_ : List (S36), y_ = (x4_1 ++ [(⟨2, x5_1, a0.extract (x5_1 : Int).toNat (x7_21 : Int).toNat, 0⟩ : S36)]) := ⟨_, rfl⟩
                                      replace H : (drogueref03_Lex.l0 kj21 a0 y118 x7_21) = some (r1, r2, r3) := by first | (rw [hy118]; with_reducible exact H) | (have H2_ := (Option.bind_some _ _).symm.trans H; rw [hy118]; with_reducible exact H2_) | (have H2_ := (Option.bind_some _ _).symm.trans H; with_reducible exact H2_) | with_reducible exact H | (rw [hy118]; exact H) | exact H
                                      have Ny118 := Aside0.mk hy118
                                      clear hy118
                                      have H' := Aside0.mk H
                                      clear H
                                      have hnb46 := NB113_109.out
                                      have hnc46 := NB109_113.out
                                      have hcz47_0 : wc.cell? ⟨gb113, 0, none⟩ = some (.int .i64 0) := (blk_cell BK113.out 0).trans rfl
                                      have hcz47_1 : wc.cell? ⟨gb113, 1, none⟩ = some (.int .i64 x5_1) := (blk_cell BK113.out 1).trans rfl
                                      have hcz47_2 : wc.cell? ⟨gb113, 2, none⟩ = some (.string (⟨#[]⟩ : ByteArray)) := (blk_cell BK113.out 2).trans rfl
                                      have hcz47_3 : wc.cell? ⟨gb113, 3, none⟩ = some (.int .i64 0) := (blk_cell BK113.out 3).trans rfl
                                      have hfz47_0 := blk_frozen BK113.out 0
                                      have hfz47_1 := blk_frozen BK113.out 1
                                      have hfz47_2 := blk_frozen BK113.out 2
                                      have hfz47_3 := blk_frozen BK113.out 3
                                      go_wp2_with (first | ((with_reducible refine gate_callee (f := 14) rfl ?_); refine goesL_ (some 84) rfl rfl Tryd.func14 (by kernel_rfl) rfl #[.string (a0.extract (x5_1 : Int).toNat (x7_21 : Int).toNat)] rfl (by (try simp only [List.map_toArray, List.map_cons, List.map_nil]); first | done | rfl | (simp only [List.length_drop, List.length_take]; rfl)) ?_; (with_reducible refine (drogueref03_Word.calls kj21 (a0.extract (x5_1 : Int).toNat (x7_21 : Int).toNat) true _ A39.out).mono ?_); rintro e w48 ⟨rfl, hb⟩; refine ⟨_, rfl, ?_⟩; have n0_ := Aside0.mk (Kd.R_below (by (with_reducible repeat (first | apply Kd.R_alloc | apply Kd.R_drewN | apply Kd.R_drew)); exact (Kd.R_mono (Kd.R_far (p := ⟨gb113, 0, none⟩) (Kd.R_mono HO_4.out (fun k_ hk => (⟨hk, hk⟩ : _ ∧ k_ ≠ gb113))) (fun _ hk => hk.2) (.int .i64 1)) (fun _ h_ => h_.1))) hb); have n1_ := Aside0.mk (blk_below (g := gb109) (o := .cells #[.int .i64 x110000_1, .int .i64 x110001_1] 25 (0, 0)) (by (with_reducible repeat (first | refine blk_drewN ?_ _ | refine blk_drew ?_ | refine blk_alloc ?_ _)); refine blk_far ?_ NB109_113.out _; (with_reducible repeat (first | refine blk_drewN ?_ _ | refine blk_drew ?_ | refine blk_alloc ?_ _)); exact BK109.out) hb); have n2_ := Aside0.mk (blk_below (g := gb113) (o := .cells #[.int .i64 1, .int .i64 x5_1, .string (⟨#[]⟩ : ByteArray), .int .i64 0] 36 (0, 0)) (by (with_reducible repeat (first | refine blk_drewN ?_ _ | refine blk_drew ?_ | refine blk_alloc ?_ _)); refine blk_put (cs := #[.int .i64 0, .int .i64 x5_1, .string (⟨#[]⟩ : ByteArray), .int .i64 0]) ?_ 0 _ rfl; (with_reducible repeat (first | refine blk_drewN ?_ _ | refine blk_drew ?_ | refine blk_alloc ?_ _)); exact BK113.out) hb); have n3_ := Aside0.mk (below_step (by repeat (first | (with_reducible first | exact HB.out | apply below_alloc | apply pw_below_drewN | apply below_drew1 | refine below_set ?_ GE109.out | refine below_set ?_ GE113.out) | exact HB.out)) hb); clear HO_4; clear BK109; clear BK113; clear HB; have HO_4 := n0_; have BK109 := n1_; have BK113 := n2_; have HB := n3_; clear n0_ n1_ n2_ n3_; (try clear hb); (try clear hb2); (try clear hk); (try clear hi); have hcz49_0 : w48.cell? ⟨gb113, 0, none⟩ = some (.int .i64 1) := (blk_cell BK113.out 0).trans rfl; have hcz49_1 : w48.cell? ⟨gb113, 1, none⟩ = some (.int .i64 x5_1) := (blk_cell BK113.out 1).trans rfl; have hcz49_2 : w48.cell? ⟨gb113, 2, none⟩ = some (.string (⟨#[]⟩ : ByteArray)) := (blk_cell BK113.out 2).trans rfl; have hcz49_3 : w48.cell? ⟨gb113, 3, none⟩ = some (.int .i64 0) := (blk_cell BK113.out 3).trans rfl; have hfz49_0 := blk_frozen BK113.out 0; have hfz49_1 := blk_frozen BK113.out 1; have hfz49_2 := blk_frozen BK113.out 2; have hfz49_3 := blk_frozen BK113.out 3) | ((with_reducible refine gate_builtin (b := .append) (xs := #[.tmp 143, .tmp 145]) rfl ?_); at_builtin; refine Kd.R_append k36 (w0 := w) w.heap.size rfl (.tmp 143) (.tmp 145) 28 36 (.agg #[(.int .i64 0), (.int .i64 0), (.string ⟨#[]⟩), (.int .i64 0)]) 40 rfl Tryd.underlying28 info36 rfl (by decide) (by omega) u4 x4_1 (⟨2, x5_1, a0.extract (x5_1 : Int).toNat (x7_21 : Int).toNat, 0⟩ : S36) [.int .i64 2, .int .i64 x5_1, .string (a0.extract (x5_1 : Int).toNat (x7_21 : Int).toNat), .int .i64 0] (fun k_ => k_ ≠ gb113) (fun _ => False) rfl (by first | (go_simp; done) | (go_simp; rfl)) ?aP (fun _ hk => hk.elim) ?aF ?aO ?aB ?aS ?aL ?_; (case aP => exact k36_mkM _ _ _ (⟨2, x5_1, a0.extract (x5_1 : Int).toNat (x7_21 : Int).toNat, 0⟩ : S36)); (case aB => exact (by repeat (first | (with_reducible first | exact HB.out | apply below_alloc | apply pw_below_drewN | apply below_drew1 | refine below_set ?_ GE109.out | refine below_set ?_ GE113.out) | exact HB.out))); (case aF => exact (fun k_ hk => Kd.freshB (g := gb113) (o := .cells #[.int .i64 2, .int .i64 x5_1, .string (a0.extract (x5_1 : Int).toNat (x7_21 : Int).toNat), .int .i64 0] 36 (0, 0)) (by (with_reducible repeat (first | refine blk_drewN ?_ _ | refine blk_drew ?_ | refine blk_alloc ?_ _)); refine blk_put (cs := #[.int .i64 2, .int .i64 x5_1, .string (⟨#[]⟩ : ByteArray), .int .i64 0]) ?_ 2 _ rfl; (with_reducible repeat (first | refine blk_drewN ?_ _ | refine blk_drew ?_ | refine blk_alloc ?_ _)); refine blk_put (cs := #[.int .i64 1, .int .i64 x5_1, .string (⟨#[]⟩ : ByteArray), .int .i64 0]) ?_ 0 _ rfl; (with_reducible repeat (first | refine blk_drewN ?_ _ | refine blk_drew ?_ | refine blk_alloc ?_ _)); exact BK113.out) k_ hk)); (case aO => exact (by (with_reducible repeat (first | apply Kd.R_alloc | apply Kd.R_drewN | apply Kd.R_drew)); exact Kd.R_mono (Kd.R_far (p := ⟨gb113, 2, none⟩) (Kd.R_far (p := ⟨gb113, 0, none⟩) (Kd.R_mono HO_4.out (fun k_ hk => (⟨hk, hk⟩ : _ ∧ k_ ≠ gb113))) (fun _ hk => hk.2) (.int .i64 2)) (fun _ hk => hk.2) (.string (a0.extract (x5_1 : Int).toNat (x7_21 : Int).toNat))) (fun _ hk => hk.1))); (case aS => exact (below_size (by repeat (first | (with_reducible first | exact HB.out | apply below_alloc | apply pw_below_drewN | apply below_drew1 | refine below_set ?_ GE109.out | refine below_set ?_ GE113.out) | exact HB.out)))); (case aL => have := LMc45.out; omega); intro v119 w50 ho hb hg hat; rw [← Ny118.out] at ho; have n0_ := Aside0.mk (blk_grown (g := gb109) (o := .cells #[.int .i64 x110000_1, .int .i64 x110001_1] 25 (0, 0)) (by (with_reducible repeat (first | refine blk_drewN ?_ _ | refine blk_drew ?_ | refine blk_alloc ?_ _)); refine blk_far ?_ NB109_113.out _; (with_reducible repeat (first | refine blk_drewN ?_ _ | refine blk_drew ?_ | refine blk_alloc ?_ _)); refine blk_far ?_ NB109_113.out _; (with_reducible repeat (first | refine blk_drewN ?_ _ | refine blk_drew ?_ | refine blk_alloc ?_ _)); exact BK109.out) hg (Kd.R_ne HO_4.out BK109.out (by decide))); have n1_ := Aside0.mk (blk_grown (g := gb113) (o := .cells #[.int .i64 2, .int .i64 x5_1, .string (a0.extract (x5_1 : Int).toNat (x7_21 : Int).toNat), .int .i64 0] 36 (0, 0)) (by (with_reducible repeat (first | refine blk_drewN ?_ _ | refine blk_drew ?_ | refine blk_alloc ?_ _)); refine blk_put (cs := #[.int .i64 2, .int .i64 x5_1, .string (⟨#[]⟩ : ByteArray), .int .i64 0]) ?_ 2 _ rfl; (with_reducible repeat (first | refine blk_drewN ?_ _ | refine blk_drew ?_ | refine blk_alloc ?_ _)); refine blk_put (cs := #[.int .i64 1, .int .i64 x5_1, .string (⟨#[]⟩ : ByteArray), .int .i64 0]) ?_ 0 _ rfl; (with_reducible repeat (first | refine blk_drewN ?_ _ | refine blk_drew ?_ | refine blk_alloc ?_ _)); exact BK113.out) hg (Kd.R_away HO_4.out (fun _ hk => hk))); have n2_ := Aside0.mk (hb); have n3_ := Aside0.mk (ho); clear BK109; clear BK113; clear HB; clear HO_4; have BK109 := n0_; have BK113 := n1_; have HB := n2_; have HO120 := n3_; clear n0_ n1_ n2_ n3_; clear ho hb hg hat))
                                      go_roundg kj21
                                      case measure => have := HK1.out; have := HJ10.out; have := HJ21.out; omega
                                      case rel => exact ⟨(y118), (x7_21), (x110000_1), (x110001_1), (by first | rfl | (simp; done) | (simp [*]; done)), H', ⟨by have := HK1.out; have := HJ10.out; have := HJ21.out; omega⟩, ⟨by (with_reducible repeat (first | apply Kd.R_alloc | apply Kd.R_drewN | apply Kd.R_drew)); exact Kd.R_mono HO120.out (fun _ hk => trivial)⟩, ⟨by (with_reducible repeat (first | refine blk_drewN ?_ _ | refine blk_drew ?_ | refine blk_alloc ?_ _)); exact BK109.out⟩, ⟨by repeat (first | (with_reducible first | exact HB.out | apply below_alloc | apply pw_below_drewN | apply below_drew1 | refine below_set ?_ GE109.out | refine below_set ?_ GE113.out) | exact HB.out)⟩⟩
                                    · rw [if_neg c45] at H
                                      exact absurd H (by simp)
                                  · rw [if_neg c41] at H
                                    have c41b0 : decide ((wrap64 (x7_21 - x5_1)) ≤ 16) = false := decide_eq_false c41
                                    clear c41
                                    simp only [Option.some.injEq, Prod.mk.injEq] at H
                                    obtain ⟨rfl, rfl, rfl⟩ := H
                                    have hnb51 := NB113_109.out
                                    have hnc51 := NB109_113.out
                                    have hcz52_0 : wc.cell? ⟨gb113, 0, none⟩ = some (.int .i64 0) := (blk_cell BK113.out 0).trans rfl
                                    have hcz52_1 : wc.cell? ⟨gb113, 1, none⟩ = some (.int .i64 x5_1) := (blk_cell BK113.out 1).trans rfl
                                    have hcz52_2 : wc.cell? ⟨gb113, 2, none⟩ = some (.string (⟨#[]⟩ : ByteArray)) := (blk_cell BK113.out 2).trans rfl
                                    have hcz52_3 : wc.cell? ⟨gb113, 3, none⟩ = some (.int .i64 0) := (blk_cell BK113.out 3).trans rfl
                                    have hfz52_0 := blk_frozen BK113.out 0
                                    have hfz52_1 := blk_frozen BK113.out 1
                                    have hfz52_2 := blk_frozen BK113.out 2
                                    have hfz52_3 := blk_frozen BK113.out 3
                                    go_wp2_with (first | ((with_reducible refine gate_callee (f := 14) rfl ?_); refine goesL_ (some 84) rfl rfl Tryd.func14 (by kernel_rfl) rfl #[.string (a0.extract (x5_1 : Int).toNat (x7_21 : Int).toNat)] rfl (by (try simp only [List.map_toArray, List.map_cons, List.map_nil]); first | done | rfl | (simp only [List.length_drop, List.length_take]; rfl)) ?_; (with_reducible refine (drogueref03_Word.calls kj21 (a0.extract (x5_1 : Int).toNat (x7_21 : Int).toNat) true _ A39.out).mono ?_); rintro e w53 ⟨rfl, hb⟩; refine ⟨_, rfl, ?_⟩; have n0_ := Aside0.mk (Kd.R_below (by (with_reducible repeat (first | apply Kd.R_alloc | apply Kd.R_drewN | apply Kd.R_drew)); exact (Kd.R_mono (Kd.R_far (p := ⟨gb113, 0, none⟩) (Kd.R_mono HO_4.out (fun k_ hk => (⟨hk, hk⟩ : _ ∧ k_ ≠ gb113))) (fun _ hk => hk.2) (.int .i64 1)) (fun _ h_ => h_.1))) hb); have n1_ := Aside0.mk (blk_below (g := gb109) (o := .cells #[.int .i64 x110000_1, .int .i64 x110001_1] 25 (0, 0)) (by (with_reducible repeat (first | refine blk_drewN ?_ _ | refine blk_drew ?_ | refine blk_alloc ?_ _)); refine blk_far ?_ NB109_113.out _; (with_reducible repeat (first | refine blk_drewN ?_ _ | refine blk_drew ?_ | refine blk_alloc ?_ _)); exact BK109.out) hb); have n2_ := Aside0.mk (blk_below (g := gb113) (o := .cells #[.int .i64 1, .int .i64 x5_1, .string (⟨#[]⟩ : ByteArray), .int .i64 0] 36 (0, 0)) (by (with_reducible repeat (first | refine blk_drewN ?_ _ | refine blk_drew ?_ | refine blk_alloc ?_ _)); refine blk_put (cs := #[.int .i64 0, .int .i64 x5_1, .string (⟨#[]⟩ : ByteArray), .int .i64 0]) ?_ 0 _ rfl; (with_reducible repeat (first | refine blk_drewN ?_ _ | refine blk_drew ?_ | refine blk_alloc ?_ _)); exact BK113.out) hb); have n3_ := Aside0.mk (below_step (by repeat (first | (with_reducible first | exact HB.out | apply below_alloc | apply pw_below_drewN | apply below_drew1 | refine below_set ?_ GE109.out | refine below_set ?_ GE113.out) | exact HB.out)) hb); clear HO_4; clear BK109; clear BK113; clear HB; have HO_4 := n0_; have BK109 := n1_; have BK113 := n2_; have HB := n3_; clear n0_ n1_ n2_ n3_; (try clear hb); (try clear hb2); (try clear hk); (try clear hi); have hcz54_0 : w53.cell? ⟨gb113, 0, none⟩ = some (.int .i64 1) := (blk_cell BK113.out 0).trans rfl; have hcz54_1 : w53.cell? ⟨gb113, 1, none⟩ = some (.int .i64 x5_1) := (blk_cell BK113.out 1).trans rfl; have hcz54_2 : w53.cell? ⟨gb113, 2, none⟩ = some (.string (⟨#[]⟩ : ByteArray)) := (blk_cell BK113.out 2).trans rfl; have hcz54_3 : w53.cell? ⟨gb113, 3, none⟩ = some (.int .i64 0) := (blk_cell BK113.out 3).trans rfl; have hfz54_0 := blk_frozen BK113.out 0; have hfz54_1 := blk_frozen BK113.out 1; have hfz54_2 := blk_frozen BK113.out 2; have hfz54_3 := blk_frozen BK113.out 3; have hcz55_0 : w53.cell? ⟨gb109, 0, none⟩ = some (.int .i64 x110000_1) := (blk_cell BK109.out 0).trans rfl; have hcz55_1 : w53.cell? ⟨gb109, 1, none⟩ = some (.int .i64 x110001_1) := (blk_cell BK109.out 1).trans rfl; have hfz55_0 := blk_frozen BK109.out 0; have hfz55_1 := blk_frozen BK109.out 1))
                                    refine bodyPost_ret (results_tc rfl _ _ gb109 25 #[.int .i64 x5_1, .int .i64 1] (0, 0) _ rfl (by (with_reducible repeat (first | refine blk_drewN ?_ _ | refine blk_drew ?_ | refine blk_alloc ?_ _)); refine blk_put (cs := #[.int .i64 x5_1, .int .i64 x110001_1]) ?_ 1 _ rfl; (with_reducible repeat (first | refine blk_drewN ?_ _ | refine blk_drew ?_ | refine blk_alloc ?_ _)); refine blk_put (cs := #[.int .i64 x110000_1, .int .i64 x110001_1]) ?_ 0 _ rfl; (with_reducible repeat (first | refine blk_drewN ?_ _ | refine blk_drew ?_ | refine blk_alloc ?_ _)); refine blk_far ?_ NB109_113.out _; (with_reducible repeat (first | refine blk_drewN ?_ _ | refine blk_drew ?_ | refine blk_alloc ?_ _)); exact BK109.out) Tryd.underlying25 rfl (by kernel_rfl)) rfl ?_
                                    exact ⟨_, by first | rfl | (simp [errW_none, errW_some] <;> rfl) | (simp [*, errW_none, errW_some] <;> rfl), by first | exact Kd.R_nil _ _ _ _ _ | exact Kd.N_nil _ _ _ _ _ | exact Kd.V_nil _ _ _ _ _ | exact Kd.Q_nil _ _ _ _ _ | exact Kd.S_nil _ _ _ _ _, by repeat (first | (with_reducible first | exact HB.out | apply below_alloc | apply pw_below_drewN | apply below_drew1 | refine below_set ?_ GE109.out | refine below_set ?_ GE113.out) | exact HB.out)⟩
                                · replace c40 := Bool.eq_false_iff.mpr c40
                                  subst c40
                                  have H1 : (if ((wrap64 (x7_21 - x5_1)) ≤ 16) then (if x4_1.length < 3518437208883 then (drogueref03_Lex.l0 kj21 a0 (x4_1 ++ [(⟨1, x5_1, a0.extract (x5_1 : Int).toNat (x7_21 : Int).toNat, 0⟩ : S36)]) x7_21) else (none)) else (some (([] : List (S36)), x5_1, 1))) = some (r1, r2, r3) := by rw [if_neg (show ¬ (false = true) by decide)] at H; exact H
                                  clear H
                                  have H := H1
                                  clear H1
                                  by_cases c56 : ((wrap64 (x7_21 - x5_1)) ≤ 16)
                                  · rw [if_pos c56] at H
                                    have c56b0 : decide ((wrap64 (x7_21 - x5_1)) ≤ 16) = true := decide_eq_true c56
                                    clear c56
                                    have c57b0 := eq_true (of_decide_eq_true (by first | (with_reducible assumption) | assumption) : 0 ≤ x5_1)
                                    have c58b0 := eq_true (of_decide_eq_true (by first | (with_reducible assumption) | assumption) : x5_1 ≤ x7_21)
                                    have c59b0 := eq_true (of_decide_eq_true (by first | (with_reducible assumption) | assumption) : x7_21 ≤ (a0.size : Int))
                                    by_cases c60 : x4_1.length < 3518437208883
                                    · rw [if_pos c60] at H
                                      have LMc60 := Aside0.mk c60
                                      clear c60
                                      obtain ⟨y121, hy121⟩ : ∃ y_ : List (S36), y_ = (x4_1 ++ [(⟨1, x5_1, a0.extract (x5_1 : Int).toNat (x7_21 : Int).toNat, 0⟩ : S36)]) := ⟨_, rfl⟩
                                      replace H : (drogueref03_Lex.l0 kj21 a0 y121 x7_21) = some (r1, r2, r3) := by first | (rw [hy121]; with_reducible exact H) | (have H2_ := (Option.bind_some _ _).symm.trans H; rw [hy121]; with_reducible exact H2_) | (have H2_ := (Option.bind_some _ _).symm.trans H; with_reducible exact H2_) | with_reducible exact H | (rw [hy121]; exact H) | exact H
                                      have Ny121 := Aside0.mk hy121
                                      clear hy121
                                      have H' := Aside0.mk H
                                      clear H
                                      have hnb61 := NB113_109.out
                                      have hnc61 := NB109_113.out
                                      have hcz62_0 : wc.cell? ⟨gb113, 0, none⟩ = some (.int .i64 0) := (blk_cell BK113.out 0).trans rfl
                                      have hcz62_1 : wc.cell? ⟨gb113, 1, none⟩ = some (.int .i64 x5_1) := (blk_cell BK113.out 1).trans rfl
                                      have hcz62_2 : wc.cell? ⟨gb113, 2, none⟩ = some (.string (⟨#[]⟩ : ByteArray)) := (blk_cell BK113.out 2).trans rfl
                                      have hcz62_3 : wc.cell? ⟨gb113, 3, none⟩ = some (.int .i64 0) := (blk_cell BK113.out 3).trans rfl
                                      have hfz62_0 := blk_frozen BK113.out 0
                                      have hfz62_1 := blk_frozen BK113.out 1
                                      have hfz62_2 := blk_frozen BK113.out 2
                                      have hfz62_3 := blk_frozen BK113.out 3
                                      go_wp2_with (first | ((with_reducible refine gate_callee (f := 14) rfl ?_); refine goesL_ (some 84) rfl rfl Tryd.func14 (by kernel_rfl) rfl #[.string (a0.extract (x5_1 : Int).toNat (x7_21 : Int).toNat)] rfl (by (try simp only [List.map_toArray, List.map_cons, List.map_nil]); first | done | rfl | (simp only [List.length_drop, List.length_take]; rfl)) ?_; (with_reducible refine (drogueref03_Word.calls kj21 (a0.extract (x5_1 : Int).toNat (x7_21 : Int).toNat) false _ A39.out).mono ?_); rintro e w63 ⟨rfl, hb⟩; refine ⟨_, rfl, ?_⟩; have n0_ := Aside0.mk (Kd.R_below (by (with_reducible repeat (first | apply Kd.R_alloc | apply Kd.R_drewN | apply Kd.R_drew)); exact (Kd.R_mono (Kd.R_far (p := ⟨gb113, 0, none⟩) (Kd.R_mono HO_4.out (fun k_ hk => (⟨hk, hk⟩ : _ ∧ k_ ≠ gb113))) (fun _ hk => hk.2) (.int .i64 1)) (fun _ h_ => h_.1))) hb); have n1_ := Aside0.mk (blk_below (g := gb109) (o := .cells #[.int .i64 x110000_1, .int .i64 x110001_1] 25 (0, 0)) (by (with_reducible repeat (first | refine blk_drewN ?_ _ | refine blk_drew ?_ | refine blk_alloc ?_ _)); refine blk_far ?_ NB109_113.out _; (with_reducible repeat (first | refine blk_drewN ?_ _ | refine blk_drew ?_ | refine blk_alloc ?_ _)); exact BK109.out) hb); have n2_ := Aside0.mk (blk_below (g := gb113) (o := .cells #[.int .i64 1, .int .i64 x5_1, .string (⟨#[]⟩ : ByteArray), .int .i64 0] 36 (0, 0)) (by (with_reducible repeat (first | refine blk_drewN ?_ _ | refine blk_drew ?_ | refine blk_alloc ?_ _)); refine blk_put (cs := #[.int .i64 0, .int .i64 x5_1, .string (⟨#[]⟩ : ByteArray), .int .i64 0]) ?_ 0 _ rfl; (with_reducible repeat (first | refine blk_drewN ?_ _ | refine blk_drew ?_ | refine blk_alloc ?_ _)); exact BK113.out) hb); have n3_ := Aside0.mk (below_step (by repeat (first | (with_reducible first | exact HB.out | apply below_alloc | apply pw_below_drewN | apply below_drew1 | refine below_set ?_ GE109.out | refine below_set ?_ GE113.out) | exact HB.out)) hb); clear HO_4; clear BK109; clear BK113; clear HB; have HO_4 := n0_; have BK109 := n1_; have BK113 := n2_; have HB := n3_; clear n0_ n1_ n2_ n3_; (try clear hb); (try clear hb2); (try clear hk); (try clear hi); have hcz64_0 : w63.cell? ⟨gb113, 0, none⟩ = some (.int .i64 1) := (blk_cell BK113.out 0).trans rfl; have hcz64_1 : w63.cell? ⟨gb113, 1, none⟩ = some (.int .i64 x5_1) := (blk_cell BK113.out 1).trans rfl; have hcz64_2 : w63.cell? ⟨gb113, 2, none⟩ = some (.string (⟨#[]⟩ : ByteArray)) := (blk_cell BK113.out 2).trans rfl; have hcz64_3 : w63.cell? ⟨gb113, 3, none⟩ = some (.int .i64 0) := (blk_cell BK113.out 3).trans rfl; have hfz64_0 := blk_frozen BK113.out 0; have hfz64_1 := blk_frozen BK113.out 1; have hfz64_2 := blk_frozen BK113.out 2; have hfz64_3 := blk_frozen BK113.out 3) | ((with_reducible refine gate_builtin (b := .append) (xs := #[.tmp 143, .tmp 145]) rfl ?_); at_builtin; refine Kd.R_append k36 (w0 := w) w.heap.size rfl (.tmp 143) (.tmp 145) 28 36 (.agg #[(.int .i64 0), (.int .i64 0), (.string ⟨#[]⟩), (.int .i64 0)]) 40 rfl Tryd.underlying28 info36 rfl (by decide) (by omega) u4 x4_1 (⟨1, x5_1, a0.extract (x5_1 : Int).toNat (x7_21 : Int).toNat, 0⟩ : S36) [.int .i64 1, .int .i64 x5_1, .string (a0.extract (x5_1 : Int).toNat (x7_21 : Int).toNat), .int .i64 0] (fun k_ => k_ ≠ gb113) (fun _ => False) rfl (by first | (go_simp; done) | (go_simp; rfl)) ?aP (fun _ hk => hk.elim) ?aF ?aO ?aB ?aS ?aL ?_; (case aP => exact k36_mkM _ _ _ (⟨1, x5_1, a0.extract (x5_1 : Int).toNat (x7_21 : Int).toNat, 0⟩ : S36)); (case aB => exact (by repeat (first | (with_reducible first | exact HB.out | apply below_alloc | apply pw_below_drewN | apply below_drew1 | refine below_set ?_ GE109.out | refine below_set ?_ GE113.out) | exact HB.out))); (case aF => exact (fun k_ hk => Kd.freshB (g := gb113) (o := .cells #[.int .i64 1, .int .i64 x5_1, .string (a0.extract (x5_1 : Int).toNat (x7_21 : Int).toNat), .int .i64 0] 36 (0, 0)) (by (with_reducible repeat (first | refine blk_drewN ?_ _ | refine blk_drew ?_ | refine blk_alloc ?_ _)); refine blk_put (cs := #[.int .i64 1, .int .i64 x5_1, .string (⟨#[]⟩ : ByteArray), .int .i64 0]) ?_ 2 _ rfl; (with_reducible repeat (first | refine blk_drewN ?_ _ | refine blk_drew ?_ | refine blk_alloc ?_ _)); exact BK113.out) k_ hk)); (case aO => exact (by (with_reducible repeat (first | apply Kd.R_alloc | apply Kd.R_drewN | apply Kd.R_drew)); exact Kd.R_mono (Kd.R_far (p := ⟨gb113, 2, none⟩) (Kd.R_mono HO_4.out (fun k_ hk => (⟨hk, hk⟩ : _ ∧ k_ ≠ gb113))) (fun _ hk => hk.2) (.string (a0.extract (x5_1 : Int).toNat (x7_21 : Int).toNat))) (fun _ hk => hk.1))); (case aS => exact (below_size (by repeat (first | (with_reducible first | exact HB.out | apply below_alloc | apply pw_below_drewN | apply below_drew1 | refine below_set ?_ GE109.out | refine below_set ?_ GE113.out) | exact HB.out)))); (case aL => have := LMc60.out; omega); intro v122 w65 ho hb hg hat; rw [← Ny121.out] at ho; have n0_ := Aside0.mk (blk_grown (g := gb109) (o := .cells #[.int .i64 x110000_1, .int .i64 x110001_1] 25 (0, 0)) (by (with_reducible repeat (first | refine blk_drewN ?_ _ | refine blk_drew ?_ | refine blk_alloc ?_ _)); refine blk_far ?_ NB109_113.out _; (with_reducible repeat (first | refine blk_drewN ?_ _ | refine blk_drew ?_ | refine blk_alloc ?_ _)); exact BK109.out) hg (Kd.R_ne HO_4.out BK109.out (by decide))); have n1_ := Aside0.mk (blk_grown (g := gb113) (o := .cells #[.int .i64 1, .int .i64 x5_1, .string (a0.extract (x5_1 : Int).toNat (x7_21 : Int).toNat), .int .i64 0] 36 (0, 0)) (by (with_reducible repeat (first | refine blk_drewN ?_ _ | refine blk_drew ?_ | refine blk_alloc ?_ _)); refine blk_put (cs := #[.int .i64 1, .int .i64 x5_1, .string (⟨#[]⟩ : ByteArray), .int .i64 0]) ?_ 2 _ rfl; (with_reducible repeat (first | refine blk_drewN ?_ _ | refine blk_drew ?_ | refine blk_alloc ?_ _)); exact BK113.out) hg (Kd.R_away HO_4.out (fun _ hk => hk))); have n2_ := Aside0.mk (hb); have n3_ := Aside0.mk (ho); clear BK109; clear BK113; clear HB; clear HO_4; have BK109 := n0_; have BK113 := n1_; have HB := n2_; have HO123 := n3_; clear n0_ n1_ n2_ n3_; clear ho hb hg hat))
                                      go_roundg kj21
                                      case measure => have := HK1.out; have := HJ10.out; have := HJ21.out; omega
                                      case rel => exact ⟨(y121), (x7_21), (x110000_1), (x110001_1), (by first | rfl | (simp; done) | (simp [*]; done)), H', ⟨by have := HK1.out; have := HJ10.out; have := HJ21.out; omega⟩, ⟨by (with_reducible repeat (first | apply Kd.R_alloc | apply Kd.R_drewN | apply Kd.R_drew)); exact Kd.R_mono HO123.out (fun _ hk => trivial)⟩, ⟨by (with_reducible repeat (first | refine blk_drewN ?_ _ | refine blk_drew ?_ | refine blk_alloc ?_ _)); exact BK109.out⟩, ⟨by repeat (first | (with_reducible first | exact HB.out | apply below_alloc | apply pw_below_drewN | apply below_drew1 | refine below_set ?_ GE109.out | refine below_set ?_ GE113.out) | exact HB.out)⟩⟩
                                    · rw [if_neg c60] at H
                                      exact absurd H (by simp)
                                  · rw [if_neg c56] at H
                                    have c56b0 : decide ((wrap64 (x7_21 - x5_1)) ≤ 16) = false := decide_eq_false c56
                                    clear c56
                                    simp only [Option.some.injEq, Prod.mk.injEq] at H
                                    obtain ⟨rfl, rfl, rfl⟩ := H
                                    have hnb66 := NB113_109.out
                                    have hnc66 := NB109_113.out
                                    have hcz67_0 : wc.cell? ⟨gb113, 0, none⟩ = some (.int .i64 0) := (blk_cell BK113.out 0).trans rfl
                                    have hcz67_1 : wc.cell? ⟨gb113, 1, none⟩ = some (.int .i64 x5_1) := (blk_cell BK113.out 1).trans rfl
                                    have hcz67_2 : wc.cell? ⟨gb113, 2, none⟩ = some (.string (⟨#[]⟩ : ByteArray)) := (blk_cell BK113.out 2).trans rfl
                                    have hcz67_3 : wc.cell? ⟨gb113, 3, none⟩ = some (.int .i64 0) := (blk_cell BK113.out 3).trans rfl
                                    have hfz67_0 := blk_frozen BK113.out 0
                                    have hfz67_1 := blk_frozen BK113.out 1
                                    have hfz67_2 := blk_frozen BK113.out 2
                                    have hfz67_3 := blk_frozen BK113.out 3
                                    go_wp2_with (first | ((with_reducible refine gate_callee (f := 14) rfl ?_); refine goesL_ (some 84) rfl rfl Tryd.func14 (by kernel_rfl) rfl #[.string (a0.extract (x5_1 : Int).toNat (x7_21 : Int).toNat)] rfl (by (try simp only [List.map_toArray, List.map_cons, List.map_nil]); first | done | rfl | (simp only [List.length_drop, List.length_take]; rfl)) ?_; (with_reducible refine (drogueref03_Word.calls kj21 (a0.extract (x5_1 : Int).toNat (x7_21 : Int).toNat) false _ A39.out).mono ?_); rintro e w68 ⟨rfl, hb⟩; refine ⟨_, rfl, ?_⟩; have n0_ := Aside0.mk (Kd.R_below (by (with_reducible repeat (first | apply Kd.R_alloc | apply Kd.R_drewN | apply Kd.R_drew)); exact (Kd.R_mono (Kd.R_far (p := ⟨gb113, 0, none⟩) (Kd.R_mono HO_4.out (fun k_ hk => (⟨hk, hk⟩ : _ ∧ k_ ≠ gb113))) (fun _ hk => hk.2) (.int .i64 1)) (fun _ h_ => h_.1))) hb); have n1_ := Aside0.mk (blk_below (g := gb109) (o := .cells #[.int .i64 x110000_1, .int .i64 x110001_1] 25 (0, 0)) (by (with_reducible repeat (first | refine blk_drewN ?_ _ | refine blk_drew ?_ | refine blk_alloc ?_ _)); refine blk_far ?_ NB109_113.out _; (with_reducible repeat (first | refine blk_drewN ?_ _ | refine blk_drew ?_ | refine blk_alloc ?_ _)); exact BK109.out) hb); have n2_ := Aside0.mk (blk_below (g := gb113) (o := .cells #[.int .i64 1, .int .i64 x5_1, .string (⟨#[]⟩ : ByteArray), .int .i64 0] 36 (0, 0)) (by (with_reducible repeat (first | refine blk_drewN ?_ _ | refine blk_drew ?_ | refine blk_alloc ?_ _)); refine blk_put (cs := #[.int .i64 0, .int .i64 x5_1, .string (⟨#[]⟩ : ByteArray), .int .i64 0]) ?_ 0 _ rfl; (with_reducible repeat (first | refine blk_drewN ?_ _ | refine blk_drew ?_ | refine blk_alloc ?_ _)); exact BK113.out) hb); have n3_ := Aside0.mk (below_step (by repeat (first | (with_reducible first | exact HB.out | apply below_alloc | apply pw_below_drewN | apply below_drew1 | refine below_set ?_ GE109.out | refine below_set ?_ GE113.out) | exact HB.out)) hb); clear HO_4; clear BK109; clear BK113; clear HB; have HO_4 := n0_; have BK109 := n1_; have BK113 := n2_; have HB := n3_; clear n0_ n1_ n2_ n3_; (try clear hb); (try clear hb2); (try clear hk); (try clear hi); have hcz69_0 : w68.cell? ⟨gb109, 0, none⟩ = some (.int .i64 x110000_1) := (blk_cell BK109.out 0).trans rfl; have hcz69_1 : w68.cell? ⟨gb109, 1, none⟩ = some (.int .i64 x110001_1) := (blk_cell BK109.out 1).trans rfl; have hfz69_0 := blk_frozen BK109.out 0; have hfz69_1 := blk_frozen BK109.out 1))
                                    refine bodyPost_ret (results_tc rfl _ _ gb109 25 #[.int .i64 x5_1, .int .i64 1] (0, 0) _ rfl (by (with_reducible repeat (first | refine blk_drewN ?_ _ | refine blk_drew ?_ | refine blk_alloc ?_ _)); refine blk_put (cs := #[.int .i64 x5_1, .int .i64 x110001_1]) ?_ 1 _ rfl; (with_reducible repeat (first | refine blk_drewN ?_ _ | refine blk_drew ?_ | refine blk_alloc ?_ _)); refine blk_put (cs := #[.int .i64 x110000_1, .int .i64 x110001_1]) ?_ 0 _ rfl; (with_reducible repeat (first | refine blk_drewN ?_ _ | refine blk_drew ?_ | refine blk_alloc ?_ _)); exact BK109.out) Tryd.underlying25 rfl (by kernel_rfl)) rfl ?_
                                    exact ⟨_, by first | rfl | (simp [errW_none, errW_some] <;> rfl) | (simp [*, errW_none, errW_some] <;> rfl), by first | exact Kd.R_nil _ _ _ _ _ | exact Kd.N_nil _ _ _ _ _ | exact Kd.V_nil _ _ _ _ _ | exact Kd.Q_nil _ _ _ _ _ | exact Kd.S_nil _ _ _ _ _, by repeat (first | (with_reducible first | exact HB.out | apply below_alloc | apply pw_below_drewN | apply below_drew1 | refine below_set ?_ GE109.out | refine below_set ?_ GE113.out) | exact HB.out)⟩
                              · rw [if_neg c38] at H
                                exact absurd H (by simp)
                            · rw [if_neg c37] at H
                              exact absurd H (by simp)
                          · rw [if_neg c36] at H
                            exact absurd H (by simp)
                    · replace c21 := Bool.eq_false_iff.mpr c21
                      subst c21
                      have H1 : ((drogueref03_digit.f (bt a0 x5_1)).bind fun t124 => (if t124 = true then (drogueref03_Lex.j5 kj10 a0 x4_1 x5_1 (bt a0 x5_1) (wrap64 (x5_1 + 1)) true true 0 x5_1 (⟨#[]⟩ : ByteArray) 0) else (drogueref03_Lex.j5 kj10 a0 x4_1 x5_1 (bt a0 x5_1) (wrap64 (x5_1 + 1)) true ((bt a0 x5_1) == 45) 0 x5_1 (⟨#[]⟩ : ByteArray) 0))) = some (r1, r2, r3) := by rw [if_neg (show ¬ (false = true) by decide)] at H; exact H
                      clear H
                      have H := H1
                      clear H1
                      have HC70 := Aside0.mk H
                      clear H
                      go_upto_region 23 with (first | ((with_reducible refine gate_dst (N := 8) rfl ?_); refine box_event ?hg (N := 8) ?hd (cs := #[.int .i64 0, .int .i64 0, .string (⟨#[]⟩ : ByteArray), .int .i64 0]) (t := 36) ?hr ?_; (case hd => rfl); (case hg => rfl); (case hr => first | (go_simp; done) | (go_simp; rfl)); intro gb113 hg w71 hbox hb; have n0_ := Aside0.mk (Kd.R_below (Kd.R_elderB (by (with_reducible repeat (first | apply Kd.R_alloc | apply Kd.R_drewN | apply Kd.R_drew)); exact HO_4.out) gb113 (Nat.le_of_eq hg.symm)) hb); have n1_ := Aside0.mk (blk_below (g := gb109) (o := .cells #[.int .i64 x110000_1, .int .i64 x110001_1] 25 (0, 0)) (by (with_reducible repeat (first | refine blk_drewN ?_ _ | refine blk_drew ?_ | refine blk_alloc ?_ _)); exact BK109.out) hb); have n2_ := Aside0.mk (below_step (by repeat (first | (with_reducible first | exact HB.out | apply below_alloc | apply pw_below_drewN | apply below_drew1 | refine below_set ?_ GE109.out) | exact HB.out)) hb); have n3_ := Aside0.mk (hbox); have n4_ := Aside0.mk ((by rw [hg]; exact (below_size (by repeat (first | (with_reducible first | exact HB.out | apply below_alloc | apply pw_below_drewN | apply below_drew1 | refine below_set ?_ GE109.out) | exact HB.out))) : w.heap.size ≤ gb113)); have n5_ := Aside0.mk ((by rw [hg]; exact (below_size (by repeat (first | (with_reducible first | exact HB.out | apply below_alloc | apply pw_below_drewN | apply below_drew1 | refine below_set ?_ GE109.out) | exact HB.out))) : w.heap.size ≤ gb113)); have n6_ := Aside0.mk ((by rw [hg]; exact Nat.ne_of_lt (blk_lt (g := gb109) (o := .cells #[.int .i64 x110000_1, .int .i64 x110001_1] 25 (0, 0)) (by (with_reducible repeat (first | refine blk_drewN ?_ _ | refine blk_drew ?_ | refine blk_alloc ?_ _)); exact BK109.out)) : gb109 ≠ gb113)); have n7_ := Aside0.mk ((by rw [hg]; exact Nat.ne_of_gt (blk_lt (g := gb109) (o := .cells #[.int .i64 x110000_1, .int .i64 x110001_1] 25 (0, 0)) (by (with_reducible repeat (first | refine blk_drewN ?_ _ | refine blk_drew ?_ | refine blk_alloc ?_ _)); exact BK109.out)) : gb113 ≠ gb109)); clear HO_4; clear BK109; clear HB; have HO_4 := n0_; have BK109 := n1_; have HB := n2_; have BK113 := n3_; have GW113 := n4_; have GE113 := n5_; have NB109_113 := n6_; have NB113_109 := n7_; clear n0_ n1_ n2_ n3_ n4_ n5_ n6_ n7_; clear hb hbox hg; have hnb72 := NB113_109.out; have hnc72 := NB109_113.out; have hcz73_0 : w71.cell? ⟨gb113, 0, none⟩ = some (.int .i64 0) := (blk_cell BK113.out 0).trans rfl; have hcz73_1 : w71.cell? ⟨gb113, 1, none⟩ = some (.int .i64 0) := (blk_cell BK113.out 1).trans rfl; have hcz73_2 : w71.cell? ⟨gb113, 2, none⟩ = some (.string (⟨#[]⟩ : ByteArray)) := (blk_cell BK113.out 2).trans rfl; have hcz73_3 : w71.cell? ⟨gb113, 3, none⟩ = some (.int .i64 0) := (blk_cell BK113.out 3).trans rfl; have hfz73_0 := blk_frozen BK113.out 0; have hfz73_1 := blk_frozen BK113.out 1; have hfz73_2 := blk_frozen BK113.out 2; have hfz73_3 := blk_frozen BK113.out 3) | ((with_reducible refine gate_callee (f := 21) rfl ?_); refine goesL_ (some 54) rfl rfl Tryd.func21 (by kernel_rfl) rfl #[.int .u8 (bt a0 x5_1)] rfl (by (try simp only [List.map_toArray, List.map_cons, List.map_nil]); first | done | rfl | (simp only [List.length_drop, List.length_take]; rfl)) ?_; (with_reducible refine (drogueref03_letter.calls (bt a0 x5_1) false _ A20.out).mono ?_); rintro e w' ⟨rfl, ⟨nd, rfl⟩⟩; refine ⟨_, rfl, ?_⟩))
                      (try simp only [Act.put, List.setIfInBounds_toArray, List.set_cons_zero, List.set_cons_succ])
                      go_cut [90] (fun v90 wc => ∃ (kq : Nat) (x90_69 : Bool), v90 = .bool x90_69 ∧ Aside0 (drogueref03_Lex.j5 kq a0 x4_1 x5_1 (bt a0 x5_1) (wrap64 (x5_1 + 1)) true x90_69 0 x5_1 (⟨#[]⟩ : ByteArray) 0 = some (r1, r2, r3)) ∧ Aside0 (kq ≤ kj10) ∧ Aside0 (Kd.R k36 36 wc w.heap.size (fun k_ => k_ ≠ gb113) u4 x4_1) ∧ Aside0 (wc.heap[gb109]? = some (.cells #[.int .i64 x110000_1, .int .i64 x110001_1] 25 (0, 0))) ∧ Aside0 (wc.heap[gb113]? = some (.cells #[.int .i64 0, .int .i64 x5_1, .string (⟨#[]⟩ : ByteArray), .int .i64 0] 36 (0, 0))) ∧ Aside0 (Below w.heap.size w wc))
                      case first =>
                        have H := HC70.out
                        clear HC70
                        replace H := Option.bind_eq_some_iff.mp H
                        obtain ⟨t124, A740, H⟩ := H
                        replace H : (if t124 = true then (drogueref03_Lex.j5 kj10 a0 x4_1 x5_1 (bt a0 x5_1) (wrap64 (x5_1 + 1)) true true 0 x5_1 (⟨#[]⟩ : ByteArray) 0) else (drogueref03_Lex.j5 kj10 a0 x4_1 x5_1 (bt a0 x5_1) (wrap64 (x5_1 + 1)) true ((bt a0 x5_1) == 45) 0 x5_1 (⟨#[]⟩ : ByteArray) 0)) = some (r1, r2, r3) := H
                        have A74 := Aside0.mk A740
                        clear A740
                        by_cases c75 : t124 = true
                        · subst c75
                          have H1 : (drogueref03_Lex.j5 kj10 a0 x4_1 x5_1 (bt a0 x5_1) (wrap64 (x5_1 + 1)) true true 0 x5_1 (⟨#[]⟩ : ByteArray) 0) = some (r1, r2, r3) := by rw [if_pos rfl] at H; exact H
                          clear H
                          have H := H1
                          clear H1
                          have H' := Aside0.mk H
                          clear H
                          go_wp2_with (first | ((with_reducible refine gate_callee (f := 22) rfl ?_); refine goesL_ (some 92) rfl rfl Tryd.func22 (by kernel_rfl) rfl #[.int .u8 (bt a0 x5_1)] rfl (by (try simp only [List.map_toArray, List.map_cons, List.map_nil]); first | done | rfl | (simp only [List.length_drop, List.length_take]; rfl)) ?_; (with_reducible refine (drogueref03_digit.calls (bt a0 x5_1) true _ A74.out).mono ?_); rintro e w' ⟨rfl, ⟨nd, rfl⟩⟩; refine ⟨_, rfl, ?_⟩))
                          go_meet
                          case rel => exact ⟨_, (true), (by first | rfl | (simp; done) | (simp [*]; done)), H', ⟨by have := HK1.out; have := HJ10.out; first | omega | exact Nat.le_refl _⟩, ⟨by (with_reducible repeat (first | apply Kd.R_alloc | apply Kd.R_drewN | apply Kd.R_drew)); exact Kd.R_mono (Kd.R_far (p := ⟨gb113, 3, none⟩) (Kd.R_far (p := ⟨gb113, 2, none⟩) (Kd.R_far (p := ⟨gb113, 1, none⟩) (Kd.R_far (p := ⟨gb113, 0, none⟩) (Kd.R_mono HO_4.out (fun k_ hk => (⟨hk, hk.2⟩ : _ ∧ k_ ≠ gb113))) (fun _ hk => hk.2) (.int .i64 0)) (fun _ hk => hk.2) (.int .i64 x5_1)) (fun _ hk => hk.2) (.string (⟨#[]⟩ : ByteArray))) (fun _ hk => hk.2) (.int .i64 0)) (fun _ hk => hk.1.2)⟩, ⟨by (with_reducible repeat (first | refine blk_drewN ?_ _ | refine blk_drew ?_ | refine blk_alloc ?_ _)); refine blk_far ?_ NB109_113.out _; (with_reducible repeat (first | refine blk_drewN ?_ _ | refine blk_drew ?_ | refine blk_alloc ?_ _)); refine blk_far ?_ NB109_113.out _; (with_reducible repeat (first | refine blk_drewN ?_ _ | refine blk_drew ?_ | refine blk_alloc ?_ _)); refine blk_far ?_ NB109_113.out _; (with_reducible repeat (first | refine blk_drewN ?_ _ | refine blk_drew ?_ | refine blk_alloc ?_ _)); refine blk_far ?_ NB109_113.out _; (with_reducible repeat (first | refine blk_drewN ?_ _ | refine blk_drew ?_ | refine blk_alloc ?_ _)); exact BK109.out⟩, ⟨by (with_reducible repeat (first | refine blk_drewN ?_ _ | refine blk_drew ?_ | refine blk_alloc ?_ _)); refine blk_put (cs := #[.int .i64 0, .int .i64 x5_1, .string (⟨#[]⟩ : ByteArray), .int .i64 0]) ?_ 3 _ rfl; (with_reducible repeat (first | refine blk_drewN ?_ _ | refine blk_drew ?_ | refine blk_alloc ?_ _)); refine blk_put (cs := #[.int .i64 0, .int .i64 x5_1, .string (⟨#[]⟩ : ByteArray), .int .i64 0]) ?_ 2 _ rfl; (with_reducible repeat (first | refine blk_drewN ?_ _ | refine blk_drew ?_ | refine blk_alloc ?_ _)); refine blk_put (cs := #[.int .i64 0, .int .i64 0, .string (⟨#[]⟩ : ByteArray), .int .i64 0]) ?_ 1 _ rfl; (with_reducible repeat (first | refine blk_drewN ?_ _ | refine blk_drew ?_ | refine blk_alloc ?_ _)); refine blk_put (cs := #[.int .i64 0, .int .i64 0, .string (⟨#[]⟩ : ByteArray), .int .i64 0]) ?_ 0 _ rfl; (with_reducible repeat (first | refine blk_drewN ?_ _ | refine blk_drew ?_ | refine blk_alloc ?_ _)); exact BK113.out⟩, ⟨by repeat (first | (with_reducible first | exact HB.out | apply below_alloc | apply pw_below_drewN | apply below_drew1 | refine below_set ?_ GE109.out | refine below_set ?_ GE113.out) | exact HB.out)⟩⟩
                        · replace c75 := Bool.eq_false_iff.mpr c75
                          subst c75
                          have H1 : (drogueref03_Lex.j5 kj10 a0 x4_1 x5_1 (bt a0 x5_1) (wrap64 (x5_1 + 1)) true ((bt a0 x5_1) == 45) 0 x5_1 (⟨#[]⟩ : ByteArray) 0) = some (r1, r2, r3) := by rw [if_neg (show ¬ (false = true) by decide)] at H; exact H
                          clear H
                          have H := H1
                          clear H1
                          have H' := Aside0.mk H
                          clear H
                          go_wp2_with (first | ((with_reducible refine gate_callee (f := 22) rfl ?_); refine goesL_ (some 92) rfl rfl Tryd.func22 (by kernel_rfl) rfl #[.int .u8 (bt a0 x5_1)] rfl (by (try simp only [List.map_toArray, List.map_cons, List.map_nil]); first | done | rfl | (simp only [List.length_drop, List.length_take]; rfl)) ?_; (with_reducible refine (drogueref03_digit.calls (bt a0 x5_1) false _ A74.out).mono ?_); rintro e w' ⟨rfl, ⟨nd, rfl⟩⟩; refine ⟨_, rfl, ?_⟩))
                          go_meet
                          case rel => exact ⟨_, (((bt a0 x5_1) == 45)), (by first | rfl | (simp; done) | (simp [*]; done)), H', ⟨by have := HK1.out; have := HJ10.out; first | omega | exact Nat.le_refl _⟩, ⟨by (with_reducible repeat (first | apply Kd.R_alloc | apply Kd.R_drewN | apply Kd.R_drew)); exact Kd.R_mono (Kd.R_far (p := ⟨gb113, 3, none⟩) (Kd.R_far (p := ⟨gb113, 2, none⟩) (Kd.R_far (p := ⟨gb113, 1, none⟩) (Kd.R_far (p := ⟨gb113, 0, none⟩) (Kd.R_mono HO_4.out (fun k_ hk => (⟨hk, hk.2⟩ : _ ∧ k_ ≠ gb113))) (fun _ hk => hk.2) (.int .i64 0)) (fun _ hk => hk.2) (.int .i64 x5_1)) (fun _ hk => hk.2) (.string (⟨#[]⟩ : ByteArray))) (fun _ hk => hk.2) (.int .i64 0)) (fun _ hk => hk.1.2)⟩, ⟨by (with_reducible repeat (first | refine blk_drewN ?_ _ | refine blk_drew ?_ | refine blk_alloc ?_ _)); refine blk_far ?_ NB109_113.out _; (with_reducible repeat (first | refine blk_drewN ?_ _ | refine blk_drew ?_ | refine blk_alloc ?_ _)); refine blk_far ?_ NB109_113.out _; (with_reducible repeat (first | refine blk_drewN ?_ _ | refine blk_drew ?_ | refine blk_alloc ?_ _)); refine blk_far ?_ NB109_113.out _; (with_reducible repeat (first | refine blk_drewN ?_ _ | refine blk_drew ?_ | refine blk_alloc ?_ _)); refine blk_far ?_ NB109_113.out _; (with_reducible repeat (first | refine blk_drewN ?_ _ | refine blk_drew ?_ | refine blk_alloc ?_ _)); exact BK109.out⟩, ⟨by (with_reducible repeat (first | refine blk_drewN ?_ _ | refine blk_drew ?_ | refine blk_alloc ?_ _)); refine blk_put (cs := #[.int .i64 0, .int .i64 x5_1, .string (⟨#[]⟩ : ByteArray), .int .i64 0]) ?_ 3 _ rfl; (with_reducible repeat (first | refine blk_drewN ?_ _ | refine blk_drew ?_ | refine blk_alloc ?_ _)); refine blk_put (cs := #[.int .i64 0, .int .i64 x5_1, .string (⟨#[]⟩ : ByteArray), .int .i64 0]) ?_ 2 _ rfl; (with_reducible repeat (first | refine blk_drewN ?_ _ | refine blk_drew ?_ | refine blk_alloc ?_ _)); refine blk_put (cs := #[.int .i64 0, .int .i64 0, .string (⟨#[]⟩ : ByteArray), .int .i64 0]) ?_ 1 _ rfl; (with_reducible repeat (first | refine blk_drewN ?_ _ | refine blk_drew ?_ | refine blk_alloc ?_ _)); refine blk_put (cs := #[.int .i64 0, .int .i64 0, .string (⟨#[]⟩ : ByteArray), .int .i64 0]) ?_ 0 _ rfl; (with_reducible repeat (first | refine blk_drewN ?_ _ | refine blk_drew ?_ | refine blk_alloc ?_ _)); exact BK113.out⟩, ⟨by repeat (first | (with_reducible first | exact HB.out | apply below_alloc | apply pw_below_drewN | apply below_drew1 | refine below_set ?_ GE109.out | refine below_set ?_ GE113.out) | exact HB.out)⟩⟩
                      case rest =>
                        clear HC70
                        try clear c1
                        try clear p1
                        try clear q1
                        try clear hx1
                        try clear c2
                        try clear c2b0
                        try clear c2b1
                        try clear p2
                        try clear q2
                        try clear hx2
                        try clear c3
                        try clear p3
                        try clear q3
                        try clear hx3
                        try clear c4
                        try clear c5
                        try clear c6
                        try clear p6
                        try clear c7
                        try clear c8
                        try clear c8b0
                        try clear c9
                        try clear c9b0
                        try clear p10
                        try clear q10
                        try clear hx10
                        try clear c11
                        try clear c12
                        try clear c12b0
                        try clear c12b1
                        try clear c13
                        try clear c13b0
                        try clear c13b1
                        try clear c14
                        try clear c15
                        try clear c15b0
                        try clear c15b1
                        try clear c16
                        try clear c16b0
                        try clear c17
                        try clear c17b0
                        try clear p18
                        try clear q18
                        try clear hx18
                        try clear c19
                        try clear c19b0
                        try clear c19b1
                        try clear c21
                        try clear c22
                        try clear c24
                        try clear c26
                        try clear c26b0
                        try clear c27
                        try clear c27b0
                        try clear p28
                        try clear q28
                        try clear hx28
                        try clear c30
                        try clear p31
                        try clear q31
                        try clear hx31
                        try clear c33
                        try clear p34
                        try clear q34
                        try clear hx34
                        try clear c35
                        try clear c35b0
                        try clear c35b1
                        try clear c36
                        try clear c36b0
                        try clear c36b1
                        try clear c37
                        try clear c37b0
                        try clear c37b1
                        try clear c38
                        try clear c38b0
                        try clear c38b1
                        try clear c40
                        try clear c41
                        try clear c41b0
                        try clear c42
                        try clear c42b0
                        try clear c43
                        try clear c43b0
                        try clear c44
                        try clear c44b0
                        try clear c45
                        try clear c46
                        try clear c51
                        try clear c56
                        try clear c56b0
                        try clear c57
                        try clear c57b0
                        try clear c58
                        try clear c58b0
                        try clear c59
                        try clear c59b0
                        try clear c60
                        try clear c61
                        try clear p64
                        try clear c66
                        try clear c72
                        try clear c75
                        try clear hcz25_0
                        try clear hcz25_1
                        try clear hcz25_2
                        try clear hcz25_3
                        try clear hcz47_0
                        try clear hcz47_1
                        try clear hcz47_2
                        try clear hcz47_3
                        try clear hcz49_0
                        try clear hcz49_1
                        try clear hcz49_2
                        try clear hcz49_3
                        try clear hcz4_0
                        try clear hcz4_1
                        try clear hcz52_0
                        try clear hcz52_1
                        try clear hcz52_2
                        try clear hcz52_3
                        try clear hcz54_0
                        try clear hcz54_1
                        try clear hcz54_2
                        try clear hcz54_3
                        try clear hcz55_0
                        try clear hcz55_1
                        try clear hcz62_0
                        try clear hcz62_1
                        try clear hcz62_2
                        try clear hcz62_3
                        try clear hcz64_0
                        try clear hcz64_1
                        try clear hcz64_2
                        try clear hcz64_3
                        try clear hcz67_0
                        try clear hcz67_1
                        try clear hcz67_2
                        try clear hcz67_3
                        try clear hcz69_0
                        try clear hcz69_1
                        try clear hcz73_0
                        try clear hcz73_1
                        try clear hcz73_2
                        try clear hcz73_3
                        try clear hfz25_0
                        try clear hfz25_1
                        try clear hfz25_2
                        try clear hfz25_3
                        try clear hfz47_0
                        try clear hfz47_1
                        try clear hfz47_2
                        try clear hfz47_3
                        try clear hfz49_0
                        try clear hfz49_1
                        try clear hfz49_2
                        try clear hfz49_3
                        try clear hfz4_0
                        try clear hfz4_1
                        try clear hfz52_0
                        try clear hfz52_1
                        try clear hfz52_2
                        try clear hfz52_3
                        try clear hfz54_0
                        try clear hfz54_1
                        try clear hfz54_2
                        try clear hfz54_3
                        try clear hfz55_0
                        try clear hfz55_1
                        try clear hfz62_0
                        try clear hfz62_1
                        try clear hfz62_2
                        try clear hfz62_3
                        try clear hfz64_0
                        try clear hfz64_1
                        try clear hfz64_2
                        try clear hfz64_3
                        try clear hfz67_0
                        try clear hfz67_1
                        try clear hfz67_2
                        try clear hfz67_3
                        try clear hfz69_0
                        try clear hfz69_1
                        try clear hfz73_0
                        try clear hfz73_1
                        try clear hfz73_2
                        try clear hfz73_3
                        try clear p1
                        try clear p10
                        try clear p18
                        try clear p2
                        try clear p28
                        try clear p3
                        try clear p31
                        try clear p34
                        try clear p6
                        try clear q1
                        try clear q10
                        try clear q18
                        try clear q2
                        try clear q28
                        try clear q3
                        try clear q31
                        try clear q34
                        obtain ⟨kq, x90_69, rfl, HA, HJ69, HO_4, BK109, BK113, HB⟩ := hcut
                        cases kq with
                        | zero => exact absurd HA.out (by simp [drogueref03_Lex.j5])
                        | succ kj69 =>
                          have H := HA.out
                          clear HA
                          simp only [drogueref03_Lex.j5] at H
                          by_cases c76 : x90_69 = true
                          · subst c76
                            have H1 : (drogueref03_Lex.l3 kj69 a0 x4_1 x5_1 (bt a0 x5_1) (wrap64 (x5_1 + 1)) 0 x5_1 (⟨#[]⟩ : ByteArray) 0) = some (r1, r2, r3) := by rw [if_pos rfl] at H; exact H
                            clear H
                            have H := H1
                            clear H1
                            have H' := Aside0.mk H
                            clear H
                            go_wp2
                            go_loopg [7] kj69 (fun kq v7 w' => ∃ (x7_4 : Int), v7 = .int .i64 x7_4 ∧ Aside0 (drogueref03_Lex.l3 kq a0 x4_1 x5_1 (bt a0 x5_1) x7_4 0 x5_1 (⟨#[]⟩ : ByteArray) 0 = some (r1, r2, r3)) ∧ Aside0 (kq ≤ kj69) ∧ Aside0 (Kd.R k36 36 w' w.heap.size (fun k_ => k_ ≠ gb113) u4 x4_1) ∧ Aside0 (w'.heap[gb109]? = some (.cells #[.int .i64 x110000_1, .int .i64 x110001_1] 25 (0, 0))) ∧ Aside0 (w'.heap[gb113]? = some (.cells #[.int .i64 0, .int .i64 x5_1, .string (⟨#[]⟩ : ByteArray), .int .i64 0] 36 (0, 0))) ∧ Aside0 (Below w.heap.size w w'))
                            case atStart => exact ⟨((wrap64 (x5_1 + 1))), (by first | rfl | (simp; done) | (simp [*]; done)), H', ⟨Nat.le_refl _⟩, ⟨by (with_reducible repeat (first | apply Kd.R_alloc | apply Kd.R_drewN | apply Kd.R_drew)); exact HO_4.out⟩, ⟨by (with_reducible repeat (first | refine blk_drewN ?_ _ | refine blk_drew ?_ | refine blk_alloc ?_ _)); exact BK109.out⟩, ⟨by (with_reducible repeat (first | refine blk_drewN ?_ _ | refine blk_drew ?_ | refine blk_alloc ?_ _)); exact BK113.out⟩, ⟨by repeat (first | (with_reducible first | exact HB.out | apply below_alloc | apply pw_below_drewN | apply below_drew1 | refine below_set ?_ GE109.out | refine below_set ?_ GE113.out) | exact HB.out)⟩⟩
                            case round =>
                              clear H'
                              try clear c1
                              try clear p1
                              try clear q1
                              try clear hx1
                              try clear c2
                              try clear c2b0
                              try clear c2b1
                              try clear p2
                              try clear q2
                              try clear hx2
                              try clear c3
                              try clear p3
                              try clear q3
                              try clear hx3
                              try clear c4
                              try clear c5
                              try clear c6
                              try clear p6
                              try clear c7
                              try clear c8
                              try clear c8b0
                              try clear c9
                              try clear c9b0
                              try clear p10
                              try clear q10
                              try clear hx10
                              try clear c11
                              try clear c12
                              try clear c12b0
                              try clear c12b1
                              try clear c13
                              try clear c13b0
                              try clear c13b1
                              try clear c14
                              try clear c15
                              try clear c15b0
                              try clear c15b1
                              try clear c16
                              try clear c16b0
                              try clear c17
                              try clear c17b0
                              try clear p18
                              try clear q18
                              try clear hx18
                              try clear c19
                              try clear c19b0
                              try clear c19b1
                              try clear c21
                              try clear c22
                              try clear c24
                              try clear c26
                              try clear c26b0
                              try clear c27
                              try clear c27b0
                              try clear p28
                              try clear q28
                              try clear hx28
                              try clear c30
                              try clear p31
                              try clear q31
                              try clear hx31
                              try clear c33
                              try clear p34
                              try clear q34
                              try clear hx34
                              try clear c35
                              try clear c35b0
                              try clear c35b1
                              try clear c36
                              try clear c36b0
                              try clear c36b1
                              try clear c37
                              try clear c37b0
                              try clear c37b1
                              try clear c38
                              try clear c38b0
                              try clear c38b1
                              try clear c40
                              try clear c41
                              try clear c41b0
                              try clear c42
                              try clear c42b0
                              try clear c43
                              try clear c43b0
                              try clear c44
                              try clear c44b0
                              try clear c45
                              try clear c46
                              try clear c51
                              try clear c56
                              try clear c56b0
                              try clear c57
                              try clear c57b0
                              try clear c58
                              try clear c58b0
                              try clear c59
                              try clear c59b0
                              try clear c60
                              try clear c61
                              try clear p64
                              try clear c66
                              try clear c72
                              try clear c75
                              try clear c76
                              try clear hcz25_0
                              try clear hcz25_1
                              try clear hcz25_2
                              try clear hcz25_3
                              try clear hcz47_0
                              try clear hcz47_1
                              try clear hcz47_2
                              try clear hcz47_3
                              try clear hcz49_0
                              try clear hcz49_1
                              try clear hcz49_2
                              try clear hcz49_3
                              try clear hcz4_0
                              try clear hcz4_1
                              try clear hcz52_0
                              try clear hcz52_1
                              try clear hcz52_2
                              try clear hcz52_3
                              try clear hcz54_0
                              try clear hcz54_1
                              try clear hcz54_2
                              try clear hcz54_3
                              try clear hcz55_0
                              try clear hcz55_1
                              try clear hcz62_0
                              try clear hcz62_1
                              try clear hcz62_2
                              try clear hcz62_3
                              try clear hcz64_0
                              try clear hcz64_1
                              try clear hcz64_2
                              try clear hcz64_3
                              try clear hcz67_0
                              try clear hcz67_1
                              try clear hcz67_2
                              try clear hcz67_3
                              try clear hcz69_0
                              try clear hcz69_1
                              try clear hcz73_0
                              try clear hcz73_1
                              try clear hcz73_2
                              try clear hcz73_3
                              try clear hfz25_0
                              try clear hfz25_1
                              try clear hfz25_2
                              try clear hfz25_3
                              try clear hfz47_0
                              try clear hfz47_1
                              try clear hfz47_2
                              try clear hfz47_3
                              try clear hfz49_0
                              try clear hfz49_1
                              try clear hfz49_2
                              try clear hfz49_3
                              try clear hfz4_0
                              try clear hfz4_1
                              try clear hfz52_0
                              try clear hfz52_1
                              try clear hfz52_2
                              try clear hfz52_3
                              try clear hfz54_0
                              try clear hfz54_1
                              try clear hfz54_2
                              try clear hfz54_3
                              try clear hfz55_0
                              try clear hfz55_1
                              try clear hfz62_0
                              try clear hfz62_1
                              try clear hfz62_2
                              try clear hfz62_3
                              try clear hfz64_0
                              try clear hfz64_1
                              try clear hfz64_2
                              try clear hfz64_3
                              try clear hfz67_0
                              try clear hfz67_1
                              try clear hfz67_2
                              try clear hfz67_3
                              try clear hfz69_0
                              try clear hfz69_1
                              try clear hfz73_0
                              try clear hfz73_1
                              try clear hfz73_2
                              try clear hfz73_3
                              try clear p1
                              try clear p10
                              try clear p18
                              try clear p2
                              try clear p28
                              try clear p3
                              try clear p31
                              try clear p34
                              try clear p6
                              try clear p64
                              try clear q1
                              try clear q10
                              try clear q18
                              try clear q2
                              try clear q28
                              try clear q3
                              try clear q31
                              try clear q34
                              obtain ⟨x7_4, rfl, HA, HK4, HO_4, BK109, BK113, HB⟩ := hrel
                              cases gk with
                              | zero => exact absurd HA.out (by simp [drogueref03_Lex.l3])
                              | succ k4 =>
                                have H := HA.out
                                clear HA
                                simp only [drogueref03_Lex.l3] at H
                                by_cases c77 : x7_4 < (a0.size : Int)
                                · rw [if_pos c77] at H
                                  have c77b0 : decide (x7_4 < (a0.size : Int)) = true := decide_eq_true c77
                                  clear c77
                                  by_cases c78 : 0 ≤ x7_4
                                  · rw [if_pos c78] at H
                                    have c78b0 : decide (0 ≤ x7_4) = true := decide_eq_true c78
                                    clear c78
                                    replace H := Option.bind_eq_some_iff.mp H
                                    obtain ⟨t125, A800, H⟩ := H
                                    replace H : (if t125 = true then (drogueref03_Lex.l3 k4 a0 x4_1 x5_1 (bt a0 x5_1) (wrap64 (x7_4 + 1)) 0 x5_1 (⟨#[]⟩ : ByteArray) 0) else (if 0 ≤ x5_1 then (if x5_1 ≤ x7_4 then (if x7_4 ≤ (a0.size : Int) then ((drogueref03_number.f k4 (a0.extract (x5_1 : Int).toNat (x7_4 : Int).toNat)).bind fun bt126 => (if bt126.2 = true then (if (bt a0 x5_1) = 45 then (if (x7_4 > (wrap64 (x5_1 + 1))) then (if x4_1.length < 3518437208883 then (drogueref03_Lex.l0 k4 a0 (x4_1 ++ [(⟨3, x5_1, a0.extract (x5_1 : Int).toNat (x7_4 : Int).toNat, bt126.1⟩ : S36)]) x7_4) else (none)) else (some (([] : List (S36)), x5_1, 1))) else (if x4_1.length < 3518437208883 then (drogueref03_Lex.l0 k4 a0 (x4_1 ++ [(⟨3, x5_1, a0.extract (x5_1 : Int).toNat (x7_4 : Int).toNat, bt126.1⟩ : S36)]) x7_4) else (none))) else (some (([] : List (S36)), x5_1, 1)))) else (none)) else (none)) else (none))) = some (r1, r2, r3) := H
                                    have A80 := Aside0.mk A800
                                    clear A800
                                    by_cases c81 : t125 = true
                                    · subst c81
                                      have H1 : (drogueref03_Lex.l3 k4 a0 x4_1 x5_1 (bt a0 x5_1) (wrap64 (x7_4 + 1)) 0 x5_1 (⟨#[]⟩ : ByteArray) 0) = some (r1, r2, r3) := by rw [if_pos rfl] at H; exact H
                                      clear H
                                      have H := H1
                                      clear H1
                                      have H' := Aside0.mk H
                                      clear H
                                      have p79 : 0 ≤ (x7_4 : Int) := of_decide_eq_true (by first | (with_reducible assumption) | assumption)
                                      have q79 : x7_4 < (a0.size : Int) := of_decide_eq_true (by first | (with_reducible assumption) | assumption)
                                      have hx79 := bt_at a0 x7_4
                                      replace p79 := eq_true p79
                                      replace q79 := eq_true q79
                                      go_wp2_with (first | (go_at_call 22; (with_reducible refine (drogueref03_digit.calls (bt a0 x7_4) true _ A80.out).mono ?_); rintro e w' ⟨rfl, ⟨nd, rfl⟩⟩))
                                      go_roundg k4
                                      case measure => have := HK1.out; have := HJ10.out; have := HJ69.out; have := HK4.out; omega
                                      case rel => exact ⟨(wrap64 (x7_4 + 1)), (by first | rfl | (simp; done) | (simp [*]; done)), H', ⟨by have := HK1.out; have := HJ10.out; have := HJ69.out; have := HK4.out; omega⟩, ⟨by (with_reducible repeat (first | apply Kd.R_alloc | apply Kd.R_drewN | apply Kd.R_drew)); exact HO_4.out⟩, ⟨by (with_reducible repeat (first | refine blk_drewN ?_ _ | refine blk_drew ?_ | refine blk_alloc ?_ _)); exact BK109.out⟩, ⟨by (with_reducible repeat (first | refine blk_drewN ?_ _ | refine blk_drew ?_ | refine blk_alloc ?_ _)); exact BK113.out⟩, ⟨by repeat (first | (with_reducible first | exact HB.out | apply below_alloc | apply pw_below_drewN | apply below_drew1 | refine below_set ?_ GE109.out | refine below_set ?_ GE113.out) | exact HB.out)⟩⟩
                                    · replace c81 := Bool.eq_false_iff.mpr c81
                                      subst c81
                                      have H1 : (if 0 ≤ x5_1 then (if x5_1 ≤ x7_4 then (if x7_4 ≤ (a0.size : Int) then ((drogueref03_number.f k4 (a0.extract (x5_1 : Int).toNat (x7_4 : Int).toNat)).bind fun bt126 => (if bt126.2 = true then (if (bt a0 x5_1) = 45 then (if (x7_4 > (wrap64 (x5_1 + 1))) then (if x4_1.length < 3518437208883 then (drogueref03_Lex.l0 k4 a0 (x4_1 ++ [(⟨3, x5_1, a0.extract (x5_1 : Int).toNat (x7_4 : Int).toNat, bt126.1⟩ : S36)]) x7_4) else (none)) else (some (([] : List (S36)), x5_1, 1))) else (if x4_1.length < 3518437208883 then (drogueref03_Lex.l0 k4 a0 (x4_1 ++ [(⟨3, x5_1, a0.extract (x5_1 : Int).toNat (x7_4 : Int).toNat, bt126.1⟩ : S36)]) x7_4) else (none))) else (some (([] : List (S36)), x5_1, 1)))) else (none)) else (none)) else (none)) = some (r1, r2, r3) := by rw [if_neg (show ¬ (false = true) by decide)] at H; exact H
                                      clear H
                                      have H := H1
                                      clear H1
                                      by_cases c82 : 0 ≤ x5_1
                                      · rw [if_pos c82] at H
                                        have c82b0 := eq_true c82
                                        have c82b1 : decide (0 ≤ x5_1) = true := decide_eq_true c82
                                        clear c82
                                        by_cases c83 : x5_1 ≤ x7_4
                                        · rw [if_pos c83] at H
                                          have c83b0 := eq_true c83
                                          have c83b1 : decide (x5_1 ≤ x7_4) = true := decide_eq_true c83
                                          clear c83
                                          by_cases c84 : x7_4 ≤ (a0.size : Int)
                                          · rw [if_pos c84] at H
                                            have c84b0 := eq_true c84
                                            have c84b1 : decide (x7_4 ≤ (a0.size : Int)) = true := decide_eq_true c84
                                            clear c84
                                            replace H := Option.bind_eq_some_iff.mp H
                                            obtain ⟨⟨t126, t127⟩, A850, H⟩ := H
                                            replace H : (if t127 = true then (if (bt a0 x5_1) = 45 then (if (x7_4 > (wrap64 (x5_1 + 1))) then (if x4_1.length < 3518437208883 then (drogueref03_Lex.l0 k4 a0 (x4_1 ++ [(⟨3, x5_1, a0.extract (x5_1 : Int).toNat (x7_4 : Int).toNat, t126⟩ : S36)]) x7_4) else (none)) else (some (([] : List (S36)), x5_1, 1))) else (if x4_1.length < 3518437208883 then (drogueref03_Lex.l0 k4 a0 (x4_1 ++ [(⟨3, x5_1, a0.extract (x5_1 : Int).toNat (x7_4 : Int).toNat, t126⟩ : S36)]) x7_4) else (none))) else (some (([] : List (S36)), x5_1, 1))) = some (r1, r2, r3) := H
                                            have A85 := Aside0.mk A850
                                            clear A850
                                            by_cases c86 : t127 = true
                                            · subst c86
                                              have H1 : (if (bt a0 x5_1) = 45 then (if (x7_4 > (wrap64 (x5_1 + 1))) then (if x4_1.length < 3518437208883 then (drogueref03_Lex.l0 k4 a0 (x4_1 ++ [(⟨3, x5_1, a0.extract (x5_1 : Int).toNat (x7_4 : Int).toNat, t126⟩ : S36)]) x7_4) else (none)) else (some (([] : List (S36)), x5_1, 1))) else (if x4_1.length < 3518437208883 then (drogueref03_Lex.l0 k4 a0 (x4_1 ++ [(⟨3, x5_1, a0.extract (x5_1 : Int).toNat (x7_4 : Int).toNat, t126⟩ : S36)]) x7_4) else (none))) = some (r1, r2, r3) := by rw [if_pos rfl] at H; exact H
                                              clear H
                                              have H := H1
                                              clear H1
                                              by_cases c87 : (bt a0 x5_1) = 45
                                              · rw [if_pos c87] at H
                                                have c87b0 : ((bt a0 x5_1) == 45) = true := beq_iff_eq.mpr c87
                                                have c87b1 : ((bt a0 x5_1) != 45) = false := bne_eq_false_iff_eq.mpr c87
                                                clear c87
                                                by_cases c88 : (x7_4 > (wrap64 (x5_1 + 1)))
                                                · rw [if_pos c88] at H
                                                  have c88b0 : decide ((wrap64 (x5_1 + 1)) < x7_4) = true := decide_eq_true c88
                                                  clear c88
                                                  have c89b0 := eq_true (of_decide_eq_true (by first | (with_reducible assumption) | assumption) : 0 ≤ x5_1)
                                                  have c90b0 := eq_true (of_decide_eq_true (by first | (with_reducible assumption) | assumption) : x5_1 ≤ x7_4)
                                                  have c91b0 := eq_true (of_decide_eq_true (by first | (with_reducible assumption) | assumption) : x7_4 ≤ (a0.size : Int))
                                                  by_cases c92 : x4_1.length < 3518437208883
                                                  · rw [if_pos c92] at H
                                                    have LMc92 := Aside0.mk c92
                                                    clear c92
                                                    obtain ⟨y128, hy128⟩ : ∃ y_ : List (S36), y_ = (x4_1 ++ [(⟨3, x5_1, a0.extract (x5_1 : Int).toNat (x7_4 : Int).toNat, t126⟩ : S36)]) := ⟨_, rfl⟩
                                                    replace H : (drogueref03_Lex.l0 k4 a0 y128 x7_4) = some (r1, r2, r3) := by first | (rw [hy128]; with_reducible exact H) | (have H2_ := (Option.bind_some _ _).symm.trans H; rw [hy128]; with_reducible exact H2_) | (have H2_ := (Option.bind_some _ _).symm.trans H; with_reducible exact H2_) | with_reducible exact H | (rw [hy128]; exact H) | exact H
                                                    have Ny128 := Aside0.mk hy128
                                                    clear hy128
                                                    have H' := Aside0.mk H
                                                    clear H
                                                    have p79 : 0 ≤ (x7_4 : Int) := of_decide_eq_true (by first | (with_reducible assumption) | assumption)
                                                    have q79 : x7_4 < (a0.size : Int) := of_decide_eq_true (by first | (with_reducible assumption) | assumption)
                                                    have hx79 := bt_at a0 x7_4
                                                    replace p79 := eq_true p79
                                                    replace q79 := eq_true q79
                                                    go_wp2_with (first | (go_at_call 22; (with_reducible refine (drogueref03_digit.calls (bt a0 x7_4) false _ A80.out).mono ?_); rintro e w' ⟨rfl, ⟨nd, rfl⟩⟩; (try (rw [drewN_self wr]; generalize hq_ : World.drewN wr _ = wr; have n0_ : Aside0 (Kd.R k36 36 wr w.heap.size (fun k_ => k_ ≠ gb113) u4 x4_1) := ⟨by rw [← hq_]; exact (by (with_reducible repeat (first | apply Kd.R_alloc | apply Kd.R_drewN | apply Kd.R_drew)); exact HO_4.out)⟩; have n1_ : Aside0 (wr.heap[gb109]? = some (.cells #[.int .i64 x110000_1, .int .i64 x110001_1] 25 (0, 0))) := ⟨by rw [← hq_]; exact (by (with_reducible repeat (first | refine blk_drewN ?_ _ | refine blk_drew ?_ | refine blk_alloc ?_ _)); exact BK109.out)⟩; have n2_ : Aside0 (wr.heap[gb113]? = some (.cells #[.int .i64 0, .int .i64 x5_1, .string (⟨#[]⟩ : ByteArray), .int .i64 0] 36 (0, 0))) := ⟨by rw [← hq_]; exact (by (with_reducible repeat (first | refine blk_drewN ?_ _ | refine blk_drew ?_ | refine blk_alloc ?_ _)); exact BK113.out)⟩; have n3_ : Aside0 (Below w.heap.size w wr) := ⟨by rw [← hq_]; exact (by repeat (first | (with_reducible first | exact HB.out | apply below_alloc | apply pw_below_drewN | apply below_drew1 | refine below_set ?_ GE109.out | refine below_set ?_ GE113.out) | exact HB.out))⟩; clear HO_4 BK109 BK113 HB hq_; have HO_4 := n0_; have BK109 := n1_; have BK113 := n2_; have HB := n3_; clear n0_ n1_ n2_ n3_)); have hnb93 := NB113_109.out; have hnc93 := NB109_113.out; have hcz94_0 : wr.cell? ⟨gb113, 0, none⟩ = some (.int .i64 0) := (blk_cell BK113.out 0).trans rfl; have hcz94_1 : wr.cell? ⟨gb113, 1, none⟩ = some (.int .i64 x5_1) := (blk_cell BK113.out 1).trans rfl; have hcz94_2 : wr.cell? ⟨gb113, 2, none⟩ = some (.string (⟨#[]⟩ : ByteArray)) := (blk_cell BK113.out 2).trans rfl; have hcz94_3 : wr.cell? ⟨gb113, 3, none⟩ = some (.int .i64 0) := (blk_cell BK113.out 3).trans rfl; have hfz94_0 := blk_frozen BK113.out 0; have hfz94_1 := blk_frozen BK113.out 1; have hfz94_2 := blk_frozen BK113.out 2; have hfz94_3 := blk_frozen BK113.out 3) | ((with_reducible refine gate_callee (f := 23) rfl ?_); refine goesL_ (some 115) rfl rfl Tryd.func23 (by kernel_rfl) rfl #[.string (a0.extract (x5_1 : Int).toNat (x7_4 : Int).toNat)] rfl (by (try simp only [List.map_toArray, List.map_cons, List.map_nil]); first | done | rfl | (simp only [List.length_drop, List.length_take]; rfl)) ?_; (with_reducible refine (drogueref03_number.calls k4 (a0.extract (x5_1 : Int).toNat (x7_4 : Int).toNat) t126 true _ A85.out).mono ?_); rintro e w' ⟨rfl, ⟨nd, rfl⟩⟩; refine ⟨_, rfl, ?_⟩) | ((with_reducible refine gate_builtin (b := .append) (xs := #[.tmp 143, .tmp 145]) rfl ?_); at_builtin; refine Kd.R_append k36 (w0 := w) w.heap.size rfl (.tmp 143) (.tmp 145) 28 36 (.agg #[(.int .i64 0), (.int .i64 0), (.string ⟨#[]⟩), (.int .i64 0)]) 40 rfl Tryd.underlying28 info36 rfl (by decide) (by omega) u4 x4_1 (⟨3, x5_1, a0.extract (x5_1 : Int).toNat (x7_4 : Int).toNat, t126⟩ : S36) [.int .i64 3, .int .i64 x5_1, .string (a0.extract (x5_1 : Int).toNat (x7_4 : Int).toNat), .int .i64 t126] (fun k_ => k_ ≠ gb113) (fun _ => False) rfl (by first | (go_simp; done) | (go_simp; rfl)) ?aP (fun _ hk => hk.elim) ?aF ?aO ?aB ?aS ?aL ?_; (case aP => exact k36_mkM _ _ _ (⟨3, x5_1, a0.extract (x5_1 : Int).toNat (x7_4 : Int).toNat, t126⟩ : S36)); (case aB => exact (by repeat (first | (with_reducible first | exact HB.out | apply below_alloc | apply pw_below_drewN | apply below_drew1 | refine below_set ?_ GE109.out | refine below_set ?_ GE113.out) | exact HB.out))); (case aF => exact (fun k_ hk => Kd.freshB (g := gb113) (o := .cells #[.int .i64 3, .int .i64 x5_1, .string (a0.extract (x5_1 : Int).toNat (x7_4 : Int).toNat), .int .i64 t126] 36 (0, 0)) (by (with_reducible repeat (first | refine blk_drewN ?_ _ | refine blk_drew ?_ | refine blk_alloc ?_ _)); refine blk_put (cs := #[.int .i64 3, .int .i64 x5_1, .string (⟨#[]⟩ : ByteArray), .int .i64 t126]) ?_ 2 _ rfl; (with_reducible repeat (first | refine blk_drewN ?_ _ | refine blk_drew ?_ | refine blk_alloc ?_ _)); refine blk_put (cs := #[.int .i64 3, .int .i64 x5_1, .string (⟨#[]⟩ : ByteArray), .int .i64 0]) ?_ 3 _ rfl; (with_reducible repeat (first | refine blk_drewN ?_ _ | refine blk_drew ?_ | refine blk_alloc ?_ _)); refine blk_put (cs := #[.int .i64 0, .int .i64 x5_1, .string (⟨#[]⟩ : ByteArray), .int .i64 0]) ?_ 0 _ rfl; (with_reducible repeat (first | refine blk_drewN ?_ _ | refine blk_drew ?_ | refine blk_alloc ?_ _)); exact BK113.out) k_ hk)); (case aO => exact (by (with_reducible repeat (first | apply Kd.R_alloc | apply Kd.R_drewN | apply Kd.R_drew)); exact Kd.R_mono (Kd.R_far (p := ⟨gb113, 2, none⟩) (Kd.R_far (p := ⟨gb113, 3, none⟩) (Kd.R_far (p := ⟨gb113, 0, none⟩) (Kd.R_mono HO_4.out (fun k_ hk => (⟨hk, hk⟩ : _ ∧ k_ ≠ gb113))) (fun _ hk => hk.2) (.int .i64 3)) (fun _ hk => hk.2) (.int .i64 t126)) (fun _ hk => hk.2) (.string (a0.extract (x5_1 : Int).toNat (x7_4 : Int).toNat))) (fun _ hk => hk.1))); (case aS => exact (below_size (by repeat (first | (with_reducible first | exact HB.out | apply below_alloc | apply pw_below_drewN | apply below_drew1 | refine below_set ?_ GE109.out | refine below_set ?_ GE113.out) | exact HB.out)))); (case aL => have := LMc92.out; omega); intro v129 w95 ho hb hg hat; rw [← Ny128.out] at ho; have n0_ := Aside0.mk (blk_grown (g := gb109) (o := .cells #[.int .i64 x110000_1, .int .i64 x110001_1] 25 (0, 0)) (by (with_reducible repeat (first | refine blk_drewN ?_ _ | refine blk_drew ?_ | refine blk_alloc ?_ _)); refine blk_far ?_ NB109_113.out _; (with_reducible repeat (first | refine blk_drewN ?_ _ | refine blk_drew ?_ | refine blk_alloc ?_ _)); refine blk_far ?_ NB109_113.out _; (with_reducible repeat (first | refine blk_drewN ?_ _ | refine blk_drew ?_ | refine blk_alloc ?_ _)); refine blk_far ?_ NB109_113.out _; (with_reducible repeat (first | refine blk_drewN ?_ _ | refine blk_drew ?_ | refine blk_alloc ?_ _)); exact BK109.out) hg (Kd.R_ne HO_4.out BK109.out (by decide))); have n1_ := Aside0.mk (blk_grown (g := gb113) (o := .cells #[.int .i64 3, .int .i64 x5_1, .string (a0.extract (x5_1 : Int).toNat (x7_4 : Int).toNat), .int .i64 t126] 36 (0, 0)) (by (with_reducible repeat (first | refine blk_drewN ?_ _ | refine blk_drew ?_ | refine blk_alloc ?_ _)); refine blk_put (cs := #[.int .i64 3, .int .i64 x5_1, .string (⟨#[]⟩ : ByteArray), .int .i64 t126]) ?_ 2 _ rfl; (with_reducible repeat (first | refine blk_drewN ?_ _ | refine blk_drew ?_ | refine blk_alloc ?_ _)); refine blk_put (cs := #[.int .i64 3, .int .i64 x5_1, .string (⟨#[]⟩ : ByteArray), .int .i64 0]) ?_ 3 _ rfl; (with_reducible repeat (first | refine blk_drewN ?_ _ | refine blk_drew ?_ | refine blk_alloc ?_ _)); refine blk_put (cs := #[.int .i64 0, .int .i64 x5_1, .string (⟨#[]⟩ : ByteArray), .int .i64 0]) ?_ 0 _ rfl; (with_reducible repeat (first | refine blk_drewN ?_ _ | refine blk_drew ?_ | refine blk_alloc ?_ _)); exact BK113.out) hg (Kd.R_away HO_4.out (fun _ hk => hk))); have n2_ := Aside0.mk (hb); have n3_ := Aside0.mk (ho); clear BK109; clear BK113; clear HB; clear HO_4; have BK109 := n0_; have BK113 := n1_; have HB := n2_; have HO130 := n3_; clear n0_ n1_ n2_ n3_; clear ho hb hg hat))
                                                    go_roundg k4
                                                    case measure => have := HK1.out; have := HJ10.out; have := HJ69.out; have := HK4.out; omega
                                                    case rel => exact ⟨(y128), (x7_4), (x110000_1), (x110001_1), (by first | rfl | (simp; done) | (simp [*]; done)), H', ⟨by have := HK1.out; have := HJ10.out; have := HJ69.out; have := HK4.out; omega⟩, ⟨by (with_reducible repeat (first | apply Kd.R_alloc | apply Kd.R_drewN | apply Kd.R_drew)); exact Kd.R_mono HO130.out (fun _ hk => trivial)⟩, ⟨by (with_reducible repeat (first | refine blk_drewN ?_ _ | refine blk_drew ?_ | refine blk_alloc ?_ _)); exact BK109.out⟩, ⟨by repeat (first | (with_reducible first | exact HB.out | apply below_alloc | apply pw_below_drewN | apply below_drew1 | refine below_set ?_ GE109.out | refine below_set ?_ GE113.out) | exact HB.out)⟩⟩
                                                  · rw [if_neg c92] at H
                                                    exact absurd H (by simp)
                                                · rw [if_neg c88] at H
                                                  have c88b0 : decide ((wrap64 (x5_1 + 1)) < x7_4) = false := decide_eq_false c88
                                                  clear c88
                                                  simp only [Option.some.injEq, Prod.mk.injEq] at H
                                                  obtain ⟨rfl, rfl, rfl⟩ := H
                                                  have p79 : 0 ≤ (x7_4 : Int) := of_decide_eq_true (by first | (with_reducible assumption) | assumption)
                                                  have q79 : x7_4 < (a0.size : Int) := of_decide_eq_true (by first | (with_reducible assumption) | assumption)
                                                  have hx79 := bt_at a0 x7_4
                                                  replace p79 := eq_true p79
                                                  replace q79 := eq_true q79
                                                  go_wp2_with (first | (go_at_call 22; (with_reducible refine (drogueref03_digit.calls (bt a0 x7_4) false _ A80.out).mono ?_); rintro e w' ⟨rfl, ⟨nd, rfl⟩⟩; (try (rw [drewN_self wr]; generalize hq_ : World.drewN wr _ = wr; have n0_ : Aside0 (Kd.R k36 36 wr w.heap.size (fun k_ => k_ ≠ gb113) u4 x4_1) := ⟨by rw [← hq_]; exact (by (with_reducible repeat (first | apply Kd.R_alloc | apply Kd.R_drewN | apply Kd.R_drew)); exact HO_4.out)⟩; have n1_ : Aside0 (wr.heap[gb109]? = some (.cells #[.int .i64 x110000_1, .int .i64 x110001_1] 25 (0, 0))) := ⟨by rw [← hq_]; exact (by (with_reducible repeat (first | refine blk_drewN ?_ _ | refine blk_drew ?_ | refine blk_alloc ?_ _)); exact BK109.out)⟩; have n2_ : Aside0 (wr.heap[gb113]? = some (.cells #[.int .i64 0, .int .i64 x5_1, .string (⟨#[]⟩ : ByteArray), .int .i64 0] 36 (0, 0))) := ⟨by rw [← hq_]; exact (by (with_reducible repeat (first | refine blk_drewN ?_ _ | refine blk_drew ?_ | refine blk_alloc ?_ _)); exact BK113.out)⟩; have n3_ : Aside0 (Below w.heap.size w wr) := ⟨by rw [← hq_]; exact (by repeat (first | (with_reducible first | exact HB.out | apply below_alloc | apply pw_below_drewN | apply below_drew1 | refine below_set ?_ GE109.out | refine below_set ?_ GE113.out) | exact HB.out))⟩; clear HO_4 BK109 BK113 HB hq_; have HO_4 := n0_; have BK109 := n1_; have BK113 := n2_; have HB := n3_; clear n0_ n1_ n2_ n3_)); have hnb96 := NB113_109.out; have hnc96 := NB109_113.out; have hcz97_0 : wr.cell? ⟨gb113, 0, none⟩ = some (.int .i64 0) := (blk_cell BK113.out 0).trans rfl; have hcz97_1 : wr.cell? ⟨gb113, 1, none⟩ = some (.int .i64 x5_1) := (blk_cell BK113.out 1).trans rfl; have hcz97_2 : wr.cell? ⟨gb113, 2, none⟩ = some (.string (⟨#[]⟩ : ByteArray)) := (blk_cell BK113.out 2).trans rfl; have hcz97_3 : wr.cell? ⟨gb113, 3, none⟩ = some (.int .i64 0) := (blk_cell BK113.out 3).trans rfl; have hfz97_0 := blk_frozen BK113.out 0; have hfz97_1 := blk_frozen BK113.out 1; have hfz97_2 := blk_frozen BK113.out 2; have hfz97_3 := blk_frozen BK113.out 3) | ((with_reducible refine gate_callee (f := 23) rfl ?_); refine goesL_ (some 115) rfl rfl Tryd.func23 (by kernel_rfl) rfl #[.string (a0.extract (x5_1 : Int).toNat (x7_4 : Int).toNat)] rfl (by (try simp only [List.map_toArray, List.map_cons, List.map_nil]); first | done | rfl | (simp only [List.length_drop, List.length_take]; rfl)) ?_; (with_reducible refine (drogueref03_number.calls k4 (a0.extract (x5_1 : Int).toNat (x7_4 : Int).toNat) t126 true _ A85.out).mono ?_); rintro e w' ⟨rfl, ⟨nd, rfl⟩⟩; refine ⟨_, rfl, ?_⟩; have hcz98_0 : wr.cell? ⟨gb109, 0, none⟩ = some (.int .i64 x110000_1) := (blk_cell BK109.out 0).trans rfl; have hcz98_1 : wr.cell? ⟨gb109, 1, none⟩ = some (.int .i64 x110001_1) := (blk_cell BK109.out 1).trans rfl; have hfz98_0 := blk_frozen BK109.out 0; have hfz98_1 := blk_frozen BK109.out 1))
                                                  refine bodyPost_ret (results_tc rfl _ _ gb109 25 #[.int .i64 x5_1, .int .i64 1] (0, 0) _ rfl (by (with_reducible repeat (first | refine blk_drewN ?_ _ | refine blk_drew ?_ | refine blk_alloc ?_ _)); refine blk_put (cs := #[.int .i64 x5_1, .int .i64 x110001_1]) ?_ 1 _ rfl; (with_reducible repeat (first | refine blk_drewN ?_ _ | refine blk_drew ?_ | refine blk_alloc ?_ _)); refine blk_put (cs := #[.int .i64 x110000_1, .int .i64 x110001_1]) ?_ 0 _ rfl; (with_reducible repeat (first | refine blk_drewN ?_ _ | refine blk_drew ?_ | refine blk_alloc ?_ _)); refine blk_far ?_ NB109_113.out _; (with_reducible repeat (first | refine blk_drewN ?_ _ | refine blk_drew ?_ | refine blk_alloc ?_ _)); refine blk_far ?_ NB109_113.out _; (with_reducible repeat (first | refine blk_drewN ?_ _ | refine blk_drew ?_ | refine blk_alloc ?_ _)); exact BK109.out) Tryd.underlying25 rfl (by kernel_rfl)) rfl ?_
                                                  exact ⟨_, by first | rfl | (simp [errW_none, errW_some] <;> rfl) | (simp [*, errW_none, errW_some] <;> rfl), by first | exact Kd.R_nil _ _ _ _ _ | exact Kd.N_nil _ _ _ _ _ | exact Kd.V_nil _ _ _ _ _ | exact Kd.Q_nil _ _ _ _ _ | exact Kd.S_nil _ _ _ _ _, by repeat (first | (with_reducible first | exact HB.out | apply below_alloc | apply pw_below_drewN | apply below_drew1 | refine below_set ?_ GE109.out | refine below_set ?_ GE113.out) | exact HB.out)⟩
                                              · rw [if_neg c87] at H
                                                have c87b0 : ((bt a0 x5_1) == 45) = false := beq_eq_false_iff_ne.mpr c87
                                                have c87b1 : ((bt a0 x5_1) != 45) = true := bne_iff_ne.mpr c87
                                                have c99b0 := eq_true (of_decide_eq_true (by first | (with_reducible assumption) | assumption) : 0 ≤ x5_1)
                                                have c100b0 := eq_true (of_decide_eq_true (by first | (with_reducible assumption) | assumption) : x5_1 ≤ x7_4)
                                                have c101b0 := eq_true (of_decide_eq_true (by first | (with_reducible assumption) | assumption) : x7_4 ≤ (a0.size : Int))
                                                by_cases c102 : x4_1.length < 3518437208883
                                                · rw [if_pos c102] at H
                                                  have LMc102 := Aside0.mk c102
                                                  clear c102
                                                  obtain ⟨y131, hy131⟩ : ∃ y_ : List (S36), y_ = (x4_1 ++ [(⟨3, x5_1, a0.extract (x5_1 : Int).toNat (x7_4 : Int).toNat, t126⟩ : S36)]) := ⟨_, rfl⟩
                                                  replace H : (drogueref03_Lex.l0 k4 a0 y131 x7_4) = some (r1, r2, r3) := by first | (rw [hy131]; with_reducible exact H) | (have H2_ := (Option.bind_some _ _).symm.trans H; rw [hy131]; with_reducible exact H2_) | (have H2_ := (Option.bind_some _ _).symm.trans H; with_reducible exact H2_) | with_reducible exact H | (rw [hy131]; exact H) | exact H
                                                  have Ny131 := Aside0.mk hy131
                                                  clear hy131
                                                  have H' := Aside0.mk H
                                                  clear H
                                                  have p79 : 0 ≤ (x7_4 : Int) := of_decide_eq_true (by first | (with_reducible assumption) | assumption)
                                                  have q79 : x7_4 < (a0.size : Int) := of_decide_eq_true (by first | (with_reducible assumption) | assumption)
                                                  have hx79 := bt_at a0 x7_4
                                                  replace p79 := eq_true p79
                                                  replace q79 := eq_true q79
                                                  go_wp2_with (first | (go_at_call 22; (with_reducible refine (drogueref03_digit.calls (bt a0 x7_4) false _ A80.out).mono ?_); rintro e w' ⟨rfl, ⟨nd, rfl⟩⟩; (try (rw [drewN_self wr]; generalize hq_ : World.drewN wr _ = wr; have n0_ : Aside0 (Kd.R k36 36 wr w.heap.size (fun k_ => k_ ≠ gb113) u4 x4_1) := ⟨by rw [← hq_]; exact (by (with_reducible repeat (first | apply Kd.R_alloc | apply Kd.R_drewN | apply Kd.R_drew)); exact HO_4.out)⟩; have n1_ : Aside0 (wr.heap[gb109]? = some (.cells #[.int .i64 x110000_1, .int .i64 x110001_1] 25 (0, 0))) := ⟨by rw [← hq_]; exact (by (with_reducible repeat (first | refine blk_drewN ?_ _ | refine blk_drew ?_ | refine blk_alloc ?_ _)); exact BK109.out)⟩; have n2_ : Aside0 (wr.heap[gb113]? = some (.cells #[.int .i64 0, .int .i64 x5_1, .string (⟨#[]⟩ : ByteArray), .int .i64 0] 36 (0, 0))) := ⟨by rw [← hq_]; exact (by (with_reducible repeat (first | refine blk_drewN ?_ _ | refine blk_drew ?_ | refine blk_alloc ?_ _)); exact BK113.out)⟩; have n3_ : Aside0 (Below w.heap.size w wr) := ⟨by rw [← hq_]; exact (by repeat (first | (with_reducible first | exact HB.out | apply below_alloc | apply pw_below_drewN | apply below_drew1 | refine below_set ?_ GE109.out | refine below_set ?_ GE113.out) | exact HB.out))⟩; clear HO_4 BK109 BK113 HB hq_; have HO_4 := n0_; have BK109 := n1_; have BK113 := n2_; have HB := n3_; clear n0_ n1_ n2_ n3_)); have hnb103 := NB113_109.out; have hnc103 := NB109_113.out; have hcz104_0 : wr.cell? ⟨gb113, 0, none⟩ = some (.int .i64 0) := (blk_cell BK113.out 0).trans rfl; have hcz104_1 : wr.cell? ⟨gb113, 1, none⟩ = some (.int .i64 x5_1) := (blk_cell BK113.out 1).trans rfl; have hcz104_2 : wr.cell? ⟨gb113, 2, none⟩ = some (.string (⟨#[]⟩ : ByteArray)) := (blk_cell BK113.out 2).trans rfl; have hcz104_3 : wr.cell? ⟨gb113, 3, none⟩ = some (.int .i64 0) := (blk_cell BK113.out 3).trans rfl; have hfz104_0 := blk_frozen BK113.out 0; have hfz104_1 := blk_frozen BK113.out 1; have hfz104_2 := blk_frozen BK113.out 2; have hfz104_3 := blk_frozen BK113.out 3) | ((with_reducible refine gate_callee (f := 23) rfl ?_); refine goesL_ (some 115) rfl rfl Tryd.func23 (by kernel_rfl) rfl #[.string (a0.extract (x5_1 : Int).toNat (x7_4 : Int).toNat)] rfl (by (try simp only [List.map_toArray, List.map_cons, List.map_nil]); first | done | rfl | (simp only [List.length_drop, List.length_take]; rfl)) ?_; (with_reducible refine (drogueref03_number.calls k4 (a0.extract (x5_1 : Int).toNat (x7_4 : Int).toNat) t126 true _ A85.out).mono ?_); rintro e w' ⟨rfl, ⟨nd, rfl⟩⟩; refine ⟨_, rfl, ?_⟩) | ((with_reducible refine gate_builtin (b := .append) (xs := #[.tmp 143, .tmp 145]) rfl ?_); at_builtin; refine Kd.R_append k36 (w0 := w) w.heap.size rfl (.tmp 143) (.tmp 145) 28 36 (.agg #[(.int .i64 0), (.int .i64 0), (.string ⟨#[]⟩), (.int .i64 0)]) 40 rfl Tryd.underlying28 info36 rfl (by decide) (by omega) u4 x4_1 (⟨3, x5_1, a0.extract (x5_1 : Int).toNat (x7_4 : Int).toNat, t126⟩ : S36) [.int .i64 3, .int .i64 x5_1, .string (a0.extract (x5_1 : Int).toNat (x7_4 : Int).toNat), .int .i64 t126] (fun k_ => k_ ≠ gb113) (fun _ => False) rfl (by first | (go_simp; done) | (go_simp; rfl)) ?aP (fun _ hk => hk.elim) ?aF ?aO ?aB ?aS ?aL ?_; (case aP => exact k36_mkM _ _ _ (⟨3, x5_1, a0.extract (x5_1 : Int).toNat (x7_4 : Int).toNat, t126⟩ : S36)); (case aB => exact (by repeat (first | (with_reducible first | exact HB.out | apply below_alloc | apply pw_below_drewN | apply below_drew1 | refine below_set ?_ GE109.out | refine below_set ?_ GE113.out) | exact HB.out))); (case aF => exact (fun k_ hk => Kd.freshB (g := gb113) (o := .cells #[.int .i64 3, .int .i64 x5_1, .string (a0.extract (x5_1 : Int).toNat (x7_4 : Int).toNat), .int .i64 t126] 36 (0, 0)) (by (with_reducible repeat (first | refine blk_drewN ?_ _ | refine blk_drew ?_ | refine blk_alloc ?_ _)); refine blk_put (cs := #[.int .i64 3, .int .i64 x5_1, .string (⟨#[]⟩ : ByteArray), .int .i64 t126]) ?_ 2 _ rfl; (with_reducible repeat (first | refine blk_drewN ?_ _ | refine blk_drew ?_ | refine blk_alloc ?_ _)); refine blk_put (cs := #[.int .i64 3, .int .i64 x5_1, .string (⟨#[]⟩ : ByteArray), .int .i64 0]) ?_ 3 _ rfl; (with_reducible repeat (first | refine blk_drewN ?_ _ | refine blk_drew ?_ | refine blk_alloc ?_ _)); refine blk_put (cs := #[.int .i64 0, .int .i64 x5_1, .string (⟨#[]⟩ : ByteArray), .int .i64 0]) ?_ 0 _ rfl; (with_reducible repeat (first | refine blk_drewN ?_ _ | refine blk_drew ?_ | refine blk_alloc ?_ _)); exact BK113.out) k_ hk)); (case aO => exact (by (with_reducible repeat (first | apply Kd.R_alloc | apply Kd.R_drewN | apply Kd.R_drew)); exact Kd.R_mono (Kd.R_far (p := ⟨gb113, 2, none⟩) (Kd.R_far (p := ⟨gb113, 3, none⟩) (Kd.R_far (p := ⟨gb113, 0, none⟩) (Kd.R_mono HO_4.out (fun k_ hk => (⟨hk, hk⟩ : _ ∧ k_ ≠ gb113))) (fun _ hk => hk.2) (.int .i64 3)) (fun _ hk => hk.2) (.int .i64 t126)) (fun _ hk => hk.2) (.string (a0.extract (x5_1 : Int).toNat (x7_4 : Int).toNat))) (fun _ hk => hk.1))); (case aS => exact (below_size (by repeat (first | (with_reducible first | exact HB.out | apply below_alloc | apply pw_below_drewN | apply below_drew1 | refine below_set ?_ GE109.out | refine below_set ?_ GE113.out) | exact HB.out)))); (case aL => have := LMc102.out; omega); intro v132 w105 ho hb hg hat; rw [← Ny131.out] at ho; have n0_ := Aside0.mk (blk_grown (g := gb109) (o := .cells #[.int .i64 x110000_1, .int .i64 x110001_1] 25 (0, 0)) (by (with_reducible repeat (first | refine blk_drewN ?_ _ | refine blk_drew ?_ | refine blk_alloc ?_ _)); refine blk_far ?_ NB109_113.out _; (with_reducible repeat (first | refine blk_drewN ?_ _ | refine blk_drew ?_ | refine blk_alloc ?_ _)); refine blk_far ?_ NB109_113.out _; (with_reducible repeat (first | refine blk_drewN ?_ _ | refine blk_drew ?_ | refine blk_alloc ?_ _)); refine blk_far ?_ NB109_113.out _; (with_reducible repeat (first | refine blk_drewN ?_ _ | refine blk_drew ?_ | refine blk_alloc ?_ _)); exact BK109.out) hg (Kd.R_ne HO_4.out BK109.out (by decide))); have n1_ := Aside0.mk (blk_grown (g := gb113) (o := .cells #[.int .i64 3, .int .i64 x5_1, .string (a0.extract (x5_1 : Int).toNat (x7_4 : Int).toNat), .int .i64 t126] 36 (0, 0)) (by (with_reducible repeat (first | refine blk_drewN ?_ _ | refine blk_drew ?_ | refine blk_alloc ?_ _)); refine blk_put (cs := #[.int .i64 3, .int .i64 x5_1, .string (⟨#[]⟩ : ByteArray), .int .i64 t126]) ?_ 2 _ rfl; (with_reducible repeat (first | refine blk_drewN ?_ _ | refine blk_drew ?_ | refine blk_alloc ?_ _)); refine blk_put (cs := #[.int .i64 3, .int .i64 x5_1, .string (⟨#[]⟩ : ByteArray), .int .i64 0]) ?_ 3 _ rfl; (with_reducible repeat (first | refine blk_drewN ?_ _ | refine blk_drew ?_ | refine blk_alloc ?_ _)); refine blk_put (cs := #[.int .i64 0, .int .i64 x5_1, .string (⟨#[]⟩ : ByteArray), .int .i64 0]) ?_ 0 _ rfl; (with_reducible repeat (first | refine blk_drewN ?_ _ | refine blk_drew ?_ | refine blk_alloc ?_ _)); exact BK113.out) hg (Kd.R_away HO_4.out (fun _ hk => hk))); have n2_ := Aside0.mk (hb); have n3_ := Aside0.mk (ho); clear BK109; clear BK113; clear HB; clear HO_4; have BK109 := n0_; have BK113 := n1_; have HB := n2_; have HO133 := n3_; clear n0_ n1_ n2_ n3_; clear ho hb hg hat))
                                                  go_roundg k4
                                                  case measure => have := HK1.out; have := HJ10.out; have := HJ69.out; have := HK4.out; omega
                                                  case rel => exact ⟨(y131), (x7_4), (x110000_1), (x110001_1), (by first | rfl | (simp; done) | (simp [*]; done)), H', ⟨by have := HK1.out; have := HJ10.out; have := HJ69.out; have := HK4.out; omega⟩, ⟨by (with_reducible repeat (first | apply Kd.R_alloc | apply Kd.R_drewN | apply Kd.R_drew)); exact Kd.R_mono HO133.out (fun _ hk => trivial)⟩, ⟨by (with_reducible repeat (first | refine blk_drewN ?_ _ | refine blk_drew ?_ | refine blk_alloc ?_ _)); exact BK109.out⟩, ⟨by repeat (first | (with_reducible first | exact HB.out | apply below_alloc | apply pw_below_drewN | apply below_drew1 | refine below_set ?_ GE109.out | refine below_set ?_ GE113.out) | exact HB.out)⟩⟩
                                                · rw [if_neg c102] at H
                                                  exact absurd H (by simp)
                                            · replace c86 := Bool.eq_false_iff.mpr c86
                                              subst c86
                                              have H1 : (some (([] : List (S36)), x5_1, 1)) = some (r1, r2, r3) := by rw [if_neg (show ¬ (false = true) by decide)] at H; exact H
                                              clear H
                                              have H := H1
                                              clear H1
                                              simp only [Option.some.injEq, Prod.mk.injEq] at H
                                              obtain ⟨rfl, rfl, rfl⟩ := H
                                              have p79 : 0 ≤ (x7_4 : Int) := of_decide_eq_true (by first | (with_reducible assumption) | assumption)
                                              have q79 : x7_4 < (a0.size : Int) := of_decide_eq_true (by first | (with_reducible assumption) | assumption)
                                              have hx79 := bt_at a0 x7_4
                                              replace p79 := eq_true p79
                                              replace q79 := eq_true q79
                                              go_wp2_with (first | (go_at_call 22; (with_reducible refine (drogueref03_digit.calls (bt a0 x7_4) false _ A80.out).mono ?_); rintro e w' ⟨rfl, ⟨nd, rfl⟩⟩; (try (rw [drewN_self wr]; generalize hq_ : World.drewN wr _ = wr; have n0_ : Aside0 (Kd.R k36 36 wr w.heap.size (fun k_ => k_ ≠ gb113) u4 x4_1) := ⟨by rw [← hq_]; exact (by (with_reducible repeat (first | apply Kd.R_alloc | apply Kd.R_drewN | apply Kd.R_drew)); exact HO_4.out)⟩; have n1_ : Aside0 (wr.heap[gb109]? = some (.cells #[.int .i64 x110000_1, .int .i64 x110001_1] 25 (0, 0))) := ⟨by rw [← hq_]; exact (by (with_reducible repeat (first | refine blk_drewN ?_ _ | refine blk_drew ?_ | refine blk_alloc ?_ _)); exact BK109.out)⟩; have n2_ : Aside0 (wr.heap[gb113]? = some (.cells #[.int .i64 0, .int .i64 x5_1, .string (⟨#[]⟩ : ByteArray), .int .i64 0] 36 (0, 0))) := ⟨by rw [← hq_]; exact (by (with_reducible repeat (first | refine blk_drewN ?_ _ | refine blk_drew ?_ | refine blk_alloc ?_ _)); exact BK113.out)⟩; have n3_ : Aside0 (Below w.heap.size w wr) := ⟨by rw [← hq_]; exact (by repeat (first | (with_reducible first | exact HB.out | apply below_alloc | apply pw_below_drewN | apply below_drew1 | refine below_set ?_ GE109.out | refine below_set ?_ GE113.out) | exact HB.out))⟩; clear HO_4 BK109 BK113 HB hq_; have HO_4 := n0_; have BK109 := n1_; have BK113 := n2_; have HB := n3_; clear n0_ n1_ n2_ n3_)); have hnb106 := NB113_109.out; have hnc106 := NB109_113.out; have hcz107_0 : wr.cell? ⟨gb113, 0, none⟩ = some (.int .i64 0) := (blk_cell BK113.out 0).trans rfl; have hcz107_1 : wr.cell? ⟨gb113, 1, none⟩ = some (.int .i64 x5_1) := (blk_cell BK113.out 1).trans rfl; have hcz107_2 : wr.cell? ⟨gb113, 2, none⟩ = some (.string (⟨#[]⟩ : ByteArray)) := (blk_cell BK113.out 2).trans rfl; have hcz107_3 : wr.cell? ⟨gb113, 3, none⟩ = some (.int .i64 0) := (blk_cell BK113.out 3).trans rfl; have hfz107_0 := blk_frozen BK113.out 0; have hfz107_1 := blk_frozen BK113.out 1; have hfz107_2 := blk_frozen BK113.out 2; have hfz107_3 := blk_frozen BK113.out 3) | ((with_reducible refine gate_callee (f := 23) rfl ?_); refine goesL_ (some 115) rfl rfl Tryd.func23 (by kernel_rfl) rfl #[.string (a0.extract (x5_1 : Int).toNat (x7_4 : Int).toNat)] rfl (by (try simp only [List.map_toArray, List.map_cons, List.map_nil]); first | done | rfl | (simp only [List.length_drop, List.length_take]; rfl)) ?_; (with_reducible refine (drogueref03_number.calls k4 (a0.extract (x5_1 : Int).toNat (x7_4 : Int).toNat) t126 false _ A85.out).mono ?_); rintro e w' ⟨rfl, ⟨nd, rfl⟩⟩; refine ⟨_, rfl, ?_⟩; have hcz108_0 : wr.cell? ⟨gb109, 0, none⟩ = some (.int .i64 x110000_1) := (blk_cell BK109.out 0).trans rfl; have hcz108_1 : wr.cell? ⟨gb109, 1, none⟩ = some (.int .i64 x110001_1) := (blk_cell BK109.out 1).trans rfl; have hfz108_0 := blk_frozen BK109.out 0; have hfz108_1 := blk_frozen BK109.out 1))
                                              refine bodyPost_ret (results_tc rfl _ _ gb109 25 #[.int .i64 x5_1, .int .i64 1] (0, 0) _ rfl (by (with_reducible repeat (first | refine blk_drewN ?_ _ | refine blk_drew ?_ | refine blk_alloc ?_ _)); refine blk_put (cs := #[.int .i64 x5_1, .int .i64 x110001_1]) ?_ 1 _ rfl; (with_reducible repeat (first | refine blk_drewN ?_ _ | refine blk_drew ?_ | refine blk_alloc ?_ _)); refine blk_put (cs := #[.int .i64 x110000_1, .int .i64 x110001_1]) ?_ 0 _ rfl; (with_reducible repeat (first | refine blk_drewN ?_ _ | refine blk_drew ?_ | refine blk_alloc ?_ _)); refine blk_far ?_ NB109_113.out _; (with_reducible repeat (first | refine blk_drewN ?_ _ | refine blk_drew ?_ | refine blk_alloc ?_ _)); refine blk_far ?_ NB109_113.out _; (with_reducible repeat (first | refine blk_drewN ?_ _ | refine blk_drew ?_ | refine blk_alloc ?_ _)); exact BK109.out) Tryd.underlying25 rfl (by kernel_rfl)) rfl ?_
                                              exact ⟨_, by first | rfl | (simp [errW_none, errW_some] <;> rfl) | (simp [*, errW_none, errW_some] <;> rfl), by first | exact Kd.R_nil _ _ _ _ _ | exact Kd.N_nil _ _ _ _ _ | exact Kd.V_nil _ _ _ _ _ | exact Kd.Q_nil _ _ _ _ _ | exact Kd.S_nil _ _ _ _ _, by repeat (first | (with_reducible first | exact HB.out | apply below_alloc | apply pw_below_drewN | apply below_drew1 | refine below_set ?_ GE109.out | refine below_set ?_ GE113.out) | exact HB.out)⟩
                                          · rw [if_neg c84] at H
                                            exact absurd H (by simp)
                                        · rw [if_neg c83] at H
                                          exact absurd H (by simp)
                                      · rw [if_neg c82] at H
                                        exact absurd H (by simp)
                                  · rw [if_neg c78] at H
                                    exact absurd H (by simp)
                                · rw [if_neg c77] at H
                                  have c77b0 : decide (x7_4 < (a0.size : Int)) = false := decide_eq_false c77
                                  clear c77
                                  by_cases c109 : 0 ≤ x5_1
                                  · rw [if_pos c109] at H
                                    have c109b0 := eq_true c109
                                    have c109b1 : decide (0 ≤ x5_1) = true := decide_eq_true c109
                                    clear c109
                                    by_cases c110 : x5_1 ≤ x7_4
                                    · rw [if_pos c110] at H
                                      have c110b0 := eq_true c110
                                      have c110b1 : decide (x5_1 ≤ x7_4) = true := decide_eq_true c110
                                      clear c110
                                      by_cases c111 : x7_4 ≤ (a0.size : Int)
                                      · rw [if_pos c111] at H
                                        have c111b0 := eq_true c111
                                        have c111b1 : decide (x7_4 ≤ (a0.size : Int)) = true := decide_eq_true c111
                                        clear c111
                                        replace H := Option.bind_eq_some_iff.mp H
                                        obtain ⟨⟨t134, t135⟩, A1120, H⟩ := H
                                        replace H : (if t135 = true then (if (bt a0 x5_1) = 45 then (if (x7_4 > (wrap64 (x5_1 + 1))) then (if x4_1.length < 3518437208883 then (drogueref03_Lex.l0 k4 a0 (x4_1 ++ [(⟨3, x5_1, a0.extract (x5_1 : Int).toNat (x7_4 : Int).toNat, t134⟩ : S36)]) x7_4) else (none)) else (some (([] : List (S36)), x5_1, 1))) else (if x4_1.length < 3518437208883 then (drogueref03_Lex.l0 k4 a0 (x4_1 ++ [(⟨3, x5_1, a0.extract (x5_1 : Int).toNat (x7_4 : Int).toNat, t134⟩ : S36)]) x7_4) else (none))) else (some (([] : List (S36)), x5_1, 1))) = some (r1, r2, r3) := H
                                        have A112 := Aside0.mk A1120
                                        clear A1120
                                        by_cases c113 : t135 = true
                                        · subst c113
                                          have H1 : (if (bt a0 x5_1) = 45 then (if (x7_4 > (wrap64 (x5_1 + 1))) then (if x4_1.length < 3518437208883 then (drogueref03_Lex.l0 k4 a0 (x4_1 ++ [(⟨3, x5_1, a0.extract (x5_1 : Int).toNat (x7_4 : Int).toNat, t134⟩ : S36)]) x7_4) else (none)) else (some (([] : List (S36)), x5_1, 1))) else (if x4_1.length < 3518437208883 then (drogueref03_Lex.l0 k4 a0 (x4_1 ++ [(⟨3, x5_1, a0.extract (x5_1 : Int).toNat (x7_4 : Int).toNat, t134⟩ : S36)]) x7_4) else (none))) = some (r1, r2, r3) := by rw [if_pos rfl] at H; exact H
                                          clear H
                                          have H := H1
                                          clear H1
                                          by_cases c114 : (bt a0 x5_1) = 45
                                          · rw [if_pos c114] at H
                                            have c114b0 : ((bt a0 x5_1) == 45) = true := beq_iff_eq.mpr c114
                                            have c114b1 : ((bt a0 x5_1) != 45) = false := bne_eq_false_iff_eq.mpr c114
                                            clear c114
                                            by_cases c115 : (x7_4 > (wrap64 (x5_1 + 1)))
                                            · rw [if_pos c115] at H
                                              have c115b0 : decide ((wrap64 (x5_1 + 1)) < x7_4) = true := decide_eq_true c115
                                              clear c115
                                              have c116b0 := eq_true (of_decide_eq_true (by first | (with_reducible assumption) | assumption) : 0 ≤ x5_1)
                                              have c117b0 := eq_true (of_decide_eq_true (by first | (with_reducible assumption) | assumption) : x5_1 ≤ x7_4)
                                              have c118b0 := eq_true (of_decide_eq_true (by first | (with_reducible assumption) | assumption) : x7_4 ≤ (a0.size : Int))
                                              by_cases c119 : x4_1.length < 3518437208883
                                              · rw [if_pos c119] at H
                                                have LMc119 := Aside0.mk c119
                                                clear c119
                                                obtain ⟨y136, hy136⟩ : ∃ y_ : List (S36), y_ = (x4_1 ++ [(⟨3, x5_1, a0.extract (x5_1 : Int).toNat (x7_4 : Int).toNat, t134⟩ : S36)]) := ⟨_, rfl⟩
                                                replace H : (drogueref03_Lex.l0 k4 a0 y136 x7_4) = some (r1, r2, r3) := by first | (rw [hy136]; with_reducible exact H) | (have H2_ := (Option.bind_some _ _).symm.trans H; rw [hy136]; with_reducible exact H2_) | (have H2_ := (Option.bind_some _ _).symm.trans H; with_reducible exact H2_) | with_reducible exact H | (rw [hy136]; exact H) | exact H
                                                have Ny136 := Aside0.mk hy136
                                                clear hy136
                                                have H' := Aside0.mk H
                                                clear H
                                                have hnb120 := NB113_109.out
                                                have hnc120 := NB109_113.out
                                                have hcz121_0 : wr.cell? ⟨gb113, 0, none⟩ = some (.int .i64 0) := (blk_cell BK113.out 0).trans rfl
                                                have hcz121_1 : wr.cell? ⟨gb113, 1, none⟩ = some (.int .i64 x5_1) := (blk_cell BK113.out 1).trans rfl
                                                have hcz121_2 : wr.cell? ⟨gb113, 2, none⟩ = some (.string (⟨#[]⟩ : ByteArray)) := (blk_cell BK113.out 2).trans rfl
                                                have hcz121_3 : wr.cell? ⟨gb113, 3, none⟩ = some (.int .i64 0) := (blk_cell BK113.out 3).trans rfl
                                                have hfz121_0 := blk_frozen BK113.out 0
                                                have hfz121_1 := blk_frozen BK113.out 1
                                                have hfz121_2 := blk_frozen BK113.out 2
                                                have hfz121_3 := blk_frozen BK113.out 3
                                                go_wp2_with (first | ((with_reducible refine gate_callee (f := 23) rfl ?_); refine goesL_ (some 115) rfl rfl Tryd.func23 (by kernel_rfl) rfl #[.string (a0.extract (x5_1 : Int).toNat (x7_4 : Int).toNat)] rfl (by (try simp only [List.map_toArray, List.map_cons, List.map_nil]); first | done | rfl | (simp only [List.length_drop, List.length_take]; rfl)) ?_; (with_reducible refine (drogueref03_number.calls k4 (a0.extract (x5_1 : Int).toNat (x7_4 : Int).toNat) t134 true _ A112.out).mono ?_); rintro e w' ⟨rfl, ⟨nd, rfl⟩⟩; refine ⟨_, rfl, ?_⟩) | ((with_reducible refine gate_builtin (b := .append) (xs := #[.tmp 143, .tmp 145]) rfl ?_); at_builtin; refine Kd.R_append k36 (w0 := w) w.heap.size rfl (.tmp 143) (.tmp 145) 28 36 (.agg #[(.int .i64 0), (.int .i64 0), (.string ⟨#[]⟩), (.int .i64 0)]) 40 rfl Tryd.underlying28 info36 rfl (by decide) (by omega) u4 x4_1 (⟨3, x5_1, a0.extract (x5_1 : Int).toNat (x7_4 : Int).toNat, t134⟩ : S36) [.int .i64 3, .int .i64 x5_1, .string (a0.extract (x5_1 : Int).toNat (x7_4 : Int).toNat), .int .i64 t134] (fun k_ => k_ ≠ gb113) (fun _ => False) rfl (by first | (go_simp; done) | (go_simp; rfl)) ?aP (fun _ hk => hk.elim) ?aF ?aO ?aB ?aS ?aL ?_; (case aP => exact k36_mkM _ _ _ (⟨3, x5_1, a0.extract (x5_1 : Int).toNat (x7_4 : Int).toNat, t134⟩ : S36)); (case aB => exact (by repeat (first | (with_reducible first | exact HB.out | apply below_alloc | apply pw_below_drewN | apply below_drew1 | refine below_set ?_ GE109.out | refine below_set ?_ GE113.out) | exact HB.out))); (case aF => exact (fun k_ hk => Kd.freshB (g := gb113) (o := .cells #[.int .i64 3, .int .i64 x5_1, .string (a0.extract (x5_1 : Int).toNat (x7_4 : Int).toNat), .int .i64 t134] 36 (0, 0)) (by (with_reducible repeat (first | refine blk_drewN ?_ _ | refine blk_drew ?_ | refine blk_alloc ?_ _)); refine blk_put (cs := #[.int .i64 3, .int .i64 x5_1, .string (⟨#[]⟩ : ByteArray), .int .i64 t134]) ?_ 2 _ rfl; (with_reducible repeat (first | refine blk_drewN ?_ _ | refine blk_drew ?_ | refine blk_alloc ?_ _)); refine blk_put (cs := #[.int .i64 3, .int .i64 x5_1, .string (⟨#[]⟩ : ByteArray), .int .i64 0]) ?_ 3 _ rfl; (with_reducible repeat (first | refine blk_drewN ?_ _ | refine blk_drew ?_ | refine blk_alloc ?_ _)); refine blk_put (cs := #[.int .i64 0, .int .i64 x5_1, .string (⟨#[]⟩ : ByteArray), .int .i64 0]) ?_ 0 _ rfl; (with_reducible repeat (first | refine blk_drewN ?_ _ | refine blk_drew ?_ | refine blk_alloc ?_ _)); exact BK113.out) k_ hk)); (case aO => exact (by (with_reducible repeat (first | apply Kd.R_alloc | apply Kd.R_drewN | apply Kd.R_drew)); exact Kd.R_mono (Kd.R_far (p := ⟨gb113, 2, none⟩) (Kd.R_far (p := ⟨gb113, 3, none⟩) (Kd.R_far (p := ⟨gb113, 0, none⟩) (Kd.R_mono HO_4.out (fun k_ hk => (⟨hk, hk⟩ : _ ∧ k_ ≠ gb113))) (fun _ hk => hk.2) (.int .i64 3)) (fun _ hk => hk.2) (.int .i64 t134)) (fun _ hk => hk.2) (.string (a0.extract (x5_1 : Int).toNat (x7_4 : Int).toNat))) (fun _ hk => hk.1))); (case aS => exact (below_size (by repeat (first | (with_reducible first | exact HB.out | apply below_alloc | apply pw_below_drewN | apply below_drew1 | refine below_set ?_ GE109.out | refine below_set ?_ GE113.out) | exact HB.out)))); (case aL => have := LMc119.out; omega); intro v137 w122 ho hb hg hat; rw [← Ny136.out] at ho; have n0_ := Aside0.mk (blk_grown (g := gb109) (o := .cells #[.int .i64 x110000_1, .int .i64 x110001_1] 25 (0, 0)) (by (with_reducible repeat (first | refine blk_drewN ?_ _ | refine blk_drew ?_ | refine blk_alloc ?_ _)); refine blk_far ?_ NB109_113.out _; (with_reducible repeat (first | refine blk_drewN ?_ _ | refine blk_drew ?_ | refine blk_alloc ?_ _)); refine blk_far ?_ NB109_113.out _; (with_reducible repeat (first | refine blk_drewN ?_ _ | refine blk_drew ?_ | refine blk_alloc ?_ _)); refine blk_far ?_ NB109_113.out _; (with_reducible repeat (first | refine blk_drewN ?_ _ | refine blk_drew ?_ | refine blk_alloc ?_ _)); exact BK109.out) hg (Kd.R_ne HO_4.out BK109.out (by decide))); have n1_ := Aside0.mk (blk_grown (g := gb113) (o := .cells #[.int .i64 3, .int .i64 x5_1, .string (a0.extract (x5_1 : Int).toNat (x7_4 : Int).toNat), .int .i64 t134] 36 (0, 0)) (by (with_reducible repeat (first | refine blk_drewN ?_ _ | refine blk_drew ?_ | refine blk_alloc ?_ _)); refine blk_put (cs := #[.int .i64 3, .int .i64 x5_1, .string (⟨#[]⟩ : ByteArray), .int .i64 t134]) ?_ 2 _ rfl; (with_reducible repeat (first | refine blk_drewN ?_ _ | refine blk_drew ?_ | refine blk_alloc ?_ _)); refine blk_put (cs := #[.int .i64 3, .int .i64 x5_1, .string (⟨#[]⟩ : ByteArray), .int .i64 0]) ?_ 3 _ rfl; (with_reducible repeat (first | refine blk_drewN ?_ _ | refine blk_drew ?_ | refine blk_alloc ?_ _)); refine blk_put (cs := #[.int .i64 0, .int .i64 x5_1, .string (⟨#[]⟩ : ByteArray), .int .i64 0]) ?_ 0 _ rfl; (with_reducible repeat (first | refine blk_drewN ?_ _ | refine blk_drew ?_ | refine blk_alloc ?_ _)); exact BK113.out) hg (Kd.R_away HO_4.out (fun _ hk => hk))); have n2_ := Aside0.mk (hb); have n3_ := Aside0.mk (ho); clear BK109; clear BK113; clear HB; clear HO_4; have BK109 := n0_; have BK113 := n1_; have HB := n2_; have HO138 := n3_; clear n0_ n1_ n2_ n3_; clear ho hb hg hat))
                                                go_roundg k4
                                                case measure => have := HK1.out; have := HJ10.out; have := HJ69.out; have := HK4.out; omega
                                                case rel => exact ⟨(y136), (x7_4), (x110000_1), (x110001_1), (by first | rfl | (simp; done) | (simp [*]; done)), H', ⟨by have := HK1.out; have := HJ10.out; have := HJ69.out; have := HK4.out; omega⟩, ⟨by (with_reducible repeat (first | apply Kd.R_alloc | apply Kd.R_drewN | apply Kd.R_drew)); exact Kd.R_mono HO138.out (fun _ hk => trivial)⟩, ⟨by (with_reducible repeat (first | refine blk_drewN ?_ _ | refine blk_drew ?_ | refine blk_alloc ?_ _)); exact BK109.out⟩, ⟨by repeat (first | (with_reducible first | exact HB.out | apply below_alloc | apply pw_below_drewN | apply below_drew1 | refine below_set ?_ GE109.out | refine below_set ?_ GE113.out) | exact HB.out)⟩⟩
                                              · rw [if_neg c119] at H
                                                exact absurd H (by simp)
                                            · rw [if_neg c115] at H
                                              have c115b0 : decide ((wrap64 (x5_1 + 1)) < x7_4) = false := decide_eq_false c115
                                              clear c115
                                              simp only [Option.some.injEq, Prod.mk.injEq] at H
                                              obtain ⟨rfl, rfl, rfl⟩ := H
                                              have hnb123 := NB113_109.out
                                              have hnc123 := NB109_113.out
                                              have hcz124_0 : wr.cell? ⟨gb113, 0, none⟩ = some (.int .i64 0) := (blk_cell BK113.out 0).trans rfl
                                              have hcz124_1 : wr.cell? ⟨gb113, 1, none⟩ = some (.int .i64 x5_1) := (blk_cell BK113.out 1).trans rfl
                                              have hcz124_2 : wr.cell? ⟨gb113, 2, none⟩ = some (.string (⟨#[]⟩ : ByteArray)) := (blk_cell BK113.out 2).trans rfl
                                              have hcz124_3 : wr.cell? ⟨gb113, 3, none⟩ = some (.int .i64 0) := (blk_cell BK113.out 3).trans rfl
                                              have hfz124_0 := blk_frozen BK113.out 0
                                              have hfz124_1 := blk_frozen BK113.out 1
                                              have hfz124_2 := blk_frozen BK113.out 2
                                              have hfz124_3 := blk_frozen BK113.out 3
                                              go_wp2_with (first | ((with_reducible refine gate_callee (f := 23) rfl ?_); refine goesL_ (some 115) rfl rfl Tryd.func23 (by kernel_rfl) rfl #[.string (a0.extract (x5_1 : Int).toNat (x7_4 : Int).toNat)] rfl (by (try simp only [List.map_toArray, List.map_cons, List.map_nil]); first | done | rfl | (simp only [List.length_drop, List.length_take]; rfl)) ?_; (with_reducible refine (drogueref03_number.calls k4 (a0.extract (x5_1 : Int).toNat (x7_4 : Int).toNat) t134 true _ A112.out).mono ?_); rintro e w' ⟨rfl, ⟨nd, rfl⟩⟩; refine ⟨_, rfl, ?_⟩; have hcz125_0 : wr.cell? ⟨gb109, 0, none⟩ = some (.int .i64 x110000_1) := (blk_cell BK109.out 0).trans rfl; have hcz125_1 : wr.cell? ⟨gb109, 1, none⟩ = some (.int .i64 x110001_1) := (blk_cell BK109.out 1).trans rfl; have hfz125_0 := blk_frozen BK109.out 0; have hfz125_1 := blk_frozen BK109.out 1))
                                              refine bodyPost_ret (results_tc rfl _ _ gb109 25 #[.int .i64 x5_1, .int .i64 1] (0, 0) _ rfl (by (with_reducible repeat (first | refine blk_drewN ?_ _ | refine blk_drew ?_ | refine blk_alloc ?_ _)); refine blk_put (cs := #[.int .i64 x5_1, .int .i64 x110001_1]) ?_ 1 _ rfl; (with_reducible repeat (first | refine blk_drewN ?_ _ | refine blk_drew ?_ | refine blk_alloc ?_ _)); refine blk_put (cs := #[.int .i64 x110000_1, .int .i64 x110001_1]) ?_ 0 _ rfl; (with_reducible repeat (first | refine blk_drewN ?_ _ | refine blk_drew ?_ | refine blk_alloc ?_ _)); refine blk_far ?_ NB109_113.out _; (with_reducible repeat (first | refine blk_drewN ?_ _ | refine blk_drew ?_ | refine blk_alloc ?_ _)); refine blk_far ?_ NB109_113.out _; (with_reducible repeat (first | refine blk_drewN ?_ _ | refine blk_drew ?_ | refine blk_alloc ?_ _)); exact BK109.out) Tryd.underlying25 rfl (by kernel_rfl)) rfl ?_
                                              exact ⟨_, by first | rfl | (simp [errW_none, errW_some] <;> rfl) | (simp [*, errW_none, errW_some] <;> rfl), by first | exact Kd.R_nil _ _ _ _ _ | exact Kd.N_nil _ _ _ _ _ | exact Kd.V_nil _ _ _ _ _ | exact Kd.Q_nil _ _ _ _ _ | exact Kd.S_nil _ _ _ _ _, by repeat (first | (with_reducible first | exact HB.out | apply below_alloc | apply pw_below_drewN | apply below_drew1 | refine below_set ?_ GE109.out | refine below_set ?_ GE113.out) | exact HB.out)⟩
                                          · rw [if_neg c114] at H
                                            have c114b0 : ((bt a0 x5_1) == 45) = false := beq_eq_false_iff_ne.mpr c114
                                            have c114b1 : ((bt a0 x5_1) != 45) = true := bne_iff_ne.mpr c114
                                            have c126b0 := eq_true (of_decide_eq_true (by first | (with_reducible assumption) | assumption) : 0 ≤ x5_1)
                                            have c127b0 := eq_true (of_decide_eq_true (by first | (with_reducible assumption) | assumption) : x5_1 ≤ x7_4)
                                            have c128b0 := eq_true (of_decide_eq_true (by first | (with_reducible assumption) | assumption) : x7_4 ≤ (a0.size : Int))
                                            by_cases c129 : x4_1.length < 3518437208883
                                            · rw [if_pos c129] at H
                                              have LMc129 := Aside0.mk c129
                                              clear c129
                                              obtain ⟨y139, hy139⟩ : ∃ y_ : List (S36), y_ = (x4_1 ++ [(⟨3, x5_1, a0.extract (x5_1 : Int).toNat (x7_4 : Int).toNat, t134⟩ : S36)]) := ⟨_, rfl⟩
                                              replace H : (drogueref03_Lex.l0 k4 a0 y139 x7_4) = some (r1, r2, r3) := by first | (rw [hy139]; with_reducible exact H) | (have H2_ := (Option.bind_some _ _).symm.trans H; rw [hy139]; with_reducible exact H2_) | (have H2_ := (Option.bind_some _ _).symm.trans H; with_reducible exact H2_) | with_reducible exact H | (rw [hy139]; exact H) | exact H
                                              have Ny139 := Aside0.mk hy139
                                              clear hy139
                                              have H' := Aside0.mk H
                                              clear H
                                              have hnb130 := NB113_109.out
                                              have hnc130 := NB109_113.out
                                              have hcz131_0 : wr.cell? ⟨gb113, 0, none⟩ = some (.int .i64 0) := (blk_cell BK113.out 0).trans rfl
                                              have hcz131_1 : wr.cell? ⟨gb113, 1, none⟩ = some (.int .i64 x5_1) := (blk_cell BK113.out 1).trans rfl
                                              have hcz131_2 : wr.cell? ⟨gb113, 2, none⟩ = some (.string (⟨#[]⟩ : ByteArray)) := (blk_cell BK113.out 2).trans rfl
                                              have hcz131_3 : wr.cell? ⟨gb113, 3, none⟩ = some (.int .i64 0) := (blk_cell BK113.out 3).trans rfl
                                              have hfz131_0 := blk_frozen BK113.out 0
                                              have hfz131_1 := blk_frozen BK113.out 1
                                              have hfz131_2 := blk_frozen BK113.out 2
                                              have hfz131_3 := blk_frozen BK113.out 3
                                              go_wp2_with (first | ((with_reducible refine gate_callee (f := 23) rfl ?_); refine goesL_ (some 115) rfl rfl Tryd.func23 (by kernel_rfl) rfl #[.string (a0.extract (x5_1 : Int).toNat (x7_4 : Int).toNat)] rfl (by (try simp only [List.map_toArray, List.map_cons, List.map_nil]); first | done | rfl | (simp only [List.length_drop, List.length_take]; rfl)) ?_; (with_reducible refine (drogueref03_number.calls k4 (a0.extract (x5_1 : Int).toNat (x7_4 : Int).toNat) t134 true _ A112.out).mono ?_); rintro e w' ⟨rfl, ⟨nd, rfl⟩⟩; refine ⟨_, rfl, ?_⟩) | ((with_reducible refine gate_builtin (b := .append) (xs := #[.tmp 143, .tmp 145]) rfl ?_); at_builtin; refine Kd.R_append k36 (w0 := w) w.heap.size rfl (.tmp 143) (.tmp 145) 28 36 (.agg #[(.int .i64 0), (.int .i64 0), (.string ⟨#[]⟩), (.int .i64 0)]) 40 rfl Tryd.underlying28 info36 rfl (by decide) (by omega) u4 x4_1 (⟨3, x5_1, a0.extract (x5_1 : Int).toNat (x7_4 : Int).toNat, t134⟩ : S36) [.int .i64 3, .int .i64 x5_1, .string (a0.extract (x5_1 : Int).toNat (x7_4 : Int).toNat), .int .i64 t134] (fun k_ => k_ ≠ gb113) (fun _ => False) rfl (by first | (go_simp; done) | (go_simp; rfl)) ?aP (fun _ hk => hk.elim) ?aF ?aO ?aB ?aS ?aL ?_; (case aP => exact k36_mkM _ _ _ (⟨3, x5_1, a0.extract (x5_1 : Int).toNat (x7_4 : Int).toNat, t134⟩ : S36)); (case aB => exact (by repeat (first | (with_reducible first | exact HB.out | apply below_alloc | apply pw_below_drewN | apply below_drew1 | refine below_set ?_ GE109.out | refine below_set ?_ GE113.out) | exact HB.out))); (case aF => exact (fun k_ hk => Kd.freshB (g := gb113) (o := .cells #[.int .i64 3, .int .i64 x5_1, .string (a0.extract (x5_1 : Int).toNat (x7_4 : Int).toNat), .int .i64 t134] 36 (0, 0)) (by (with_reducible repeat (first | refine blk_drewN ?_ _ | refine blk_drew ?_ | refine blk_alloc ?_ _)); refine blk_put (cs := #[.int .i64 3, .int .i64 x5_1, .string (⟨#[]⟩ : ByteArray), .int .i64 t134]) ?_ 2 _ rfl; (with_reducible repeat (first | refine blk_drewN ?_ _ | refine blk_drew ?_ | refine blk_alloc ?_ _)); refine blk_put (cs := #[.int .i64 3, .int .i64 x5_1, .string (⟨#[]⟩ : ByteArray), .int .i64 0]) ?_ 3 _ rfl; (with_reducible repeat (first | refine blk_drewN ?_ _ | refine blk_drew ?_ | refine blk_alloc ?_ _)); refine blk_put (cs := #[.int .i64 0, .int .i64 x5_1, .string (⟨#[]⟩ : ByteArray), .int .i64 0]) ?_ 0 _ rfl; (with_reducible repeat (first | refine blk_drewN ?_ _ | refine blk_drew ?_ | refine blk_alloc ?_ _)); exact BK113.out) k_ hk)); (case aO => exact (by (with_reducible repeat (first | apply Kd.R_alloc | apply Kd.R_drewN | apply Kd.R_drew)); exact Kd.R_mono (Kd.R_far (p := ⟨gb113, 2, none⟩) (Kd.R_far (p := ⟨gb113, 3, none⟩) (Kd.R_far (p := ⟨gb113, 0, none⟩) (Kd.R_mono HO_4.out (fun k_ hk => (⟨hk, hk⟩ : _ ∧ k_ ≠ gb113))) (fun _ hk => hk.2) (.int .i64 3)) (fun _ hk => hk.2) (.int .i64 t134)) (fun _ hk => hk.2) (.string (a0.extract (x5_1 : Int).toNat (x7_4 : Int).toNat))) (fun _ hk => hk.1))); (case aS => exact (below_size (by repeat (first | (with_reducible first | exact HB.out | apply below_alloc | apply pw_below_drewN | apply below_drew1 | refine below_set ?_ GE109.out | refine below_set ?_ GE113.out) | exact HB.out)))); (case aL => have := LMc129.out; omega); intro v140 w132 ho hb hg hat; rw [← Ny139.out] at ho; have n0_ := Aside0.mk (blk_grown (g := gb109) (o := .cells #[.int .i64 x110000_1, .int .i64 x110001_1] 25 (0, 0)) (by (with_reducible repeat (first | refine blk_drewN ?_ _ | refine blk_drew ?_ | refine blk_alloc ?_ _)); refine blk_far ?_ NB109_113.out _; (with_reducible repeat (first | refine blk_drewN ?_ _ | refine blk_drew ?_ | refine blk_alloc ?_ _)); refine blk_far ?_ NB109_113.out _; (with_reducible repeat (first | refine blk_drewN ?_ _ | refine blk_drew ?_ | refine blk_alloc ?_ _)); refine blk_far ?_ NB109_113.out _; (with_reducible repeat (first | refine blk_drewN ?_ _ | refine blk_drew ?_ | refine blk_alloc ?_ _)); exact BK109.out) hg (Kd.R_ne HO_4.out BK109.out (by decide))); have n1_ := Aside0.mk (blk_grown (g := gb113) (o := .cells #[.int .i64 3, .int .i64 x5_1, .string (a0.extract (x5_1 : Int).toNat (x7_4 : Int).toNat), .int .i64 t134] 36 (0, 0)) (by (with_reducible repeat (first | refine blk_drewN ?_ _ | refine blk_drew ?_ | refine blk_alloc ?_ _)); refine blk_put (cs := #[.int .i64 3, .int .i64 x5_1, .string (⟨#[]⟩ : ByteArray), .int .i64 t134]) ?_ 2 _ rfl; (with_reducible repeat (first | refine blk_drewN ?_ _ | refine blk_drew ?_ | refine blk_alloc ?_ _)); refine blk_put (cs := #[.int .i64 3, .int .i64 x5_1, .string (⟨#[]⟩ : ByteArray), .int .i64 0]) ?_ 3 _ rfl; (with_reducible repeat (first | refine blk_drewN ?_ _ | refine blk_drew ?_ | refine blk_alloc ?_ _)); refine blk_put (cs := #[.int .i64 0, .int .i64 x5_1, .string (⟨#[]⟩ : ByteArray), .int .i64 0]) ?_ 0 _ rfl; (with_reducible repeat (first | refine blk_drewN ?_ _ | refine blk_drew ?_ | refine blk_alloc ?_ _)); exact BK113.out) hg (Kd.R_away HO_4.out (fun _ hk => hk))); have n2_ := Aside0.mk (hb); have n3_ := Aside0.mk (ho); clear BK109; clear BK113; clear HB; clear HO_4; have BK109 := n0_; have BK113 := n1_; have HB := n2_; have HO141 := n3_; clear n0_ n1_ n2_ n3_; clear ho hb hg hat))
                                              go_roundg k4
                                              case measure => have := HK1.out; have := HJ10.out; have := HJ69.out; have := HK4.out; omega
                                              case rel => exact ⟨(y139), (x7_4), (x110000_1), (x110001_1), (by first | rfl | (simp; done) | (simp [*]; done)), H', ⟨by have := HK1.out; have := HJ10.out; have := HJ69.out; have := HK4.out; omega⟩, ⟨by (with_reducible repeat (first | apply Kd.R_alloc | apply Kd.R_drewN | apply Kd.R_drew)); exact Kd.R_mono HO141.out (fun _ hk => trivial)⟩, ⟨by (with_reducible repeat (first | refine blk_drewN ?_ _ | refine blk_drew ?_ | refine blk_alloc ?_ _)); exact BK109.out⟩, ⟨by repeat (first | (with_reducible first | exact HB.out | apply below_alloc | apply pw_below_drewN | apply below_drew1 | refine below_set ?_ GE109.out | refine below_set ?_ GE113.out) | exact HB.out)⟩⟩
                                            · rw [if_neg c129] at H
                                              exact absurd H (by simp)
                                        · replace c113 := Bool.eq_false_iff.mpr c113
                                          subst c113
                                          have H1 : (some (([] : List (S36)), x5_1, 1)) = some (r1, r2, r3) := by rw [if_neg (show ¬ (false = true) by decide)] at H; exact H
                                          clear H
                                          have H := H1
                                          clear H1
                                          simp only [Option.some.injEq, Prod.mk.injEq] at H
                                          obtain ⟨rfl, rfl, rfl⟩ := H
                                          have hnb133 := NB113_109.out
                                          have hnc133 := NB109_113.out
                                          have hcz134_0 : wr.cell? ⟨gb113, 0, none⟩ = some (.int .i64 0) := (blk_cell BK113.out 0).trans rfl
                                          have hcz134_1 : wr.cell? ⟨gb113, 1, none⟩ = some (.int .i64 x5_1) := (blk_cell BK113.out 1).trans rfl
                                          have hcz134_2 : wr.cell? ⟨gb113, 2, none⟩ = some (.string (⟨#[]⟩ : ByteArray)) := (blk_cell BK113.out 2).trans rfl
                                          have hcz134_3 : wr.cell? ⟨gb113, 3, none⟩ = some (.int .i64 0) := (blk_cell BK113.out 3).trans rfl
                                          have hfz134_0 := blk_frozen BK113.out 0
                                          have hfz134_1 := blk_frozen BK113.out 1
                                          have hfz134_2 := blk_frozen BK113.out 2
                                          have hfz134_3 := blk_frozen BK113.out 3
                                          go_wp2_with (first | ((with_reducible refine gate_callee (f := 23) rfl ?_); refine goesL_ (some 115) rfl rfl Tryd.func23 (by kernel_rfl) rfl #[.string (a0.extract (x5_1 : Int).toNat (x7_4 : Int).toNat)] rfl (by (try simp only [List.map_toArray, List.map_cons, List.map_nil]); first | done | rfl | (simp only [List.length_drop, List.length_take]; rfl)) ?_; (with_reducible refine (drogueref03_number.calls k4 (a0.extract (x5_1 : Int).toNat (x7_4 : Int).toNat) t134 false _ A112.out).mono ?_); rintro e w' ⟨rfl, ⟨nd, rfl⟩⟩; refine ⟨_, rfl, ?_⟩; have hcz135_0 : wr.cell? ⟨gb109, 0, none⟩ = some (.int .i64 x110000_1) := (blk_cell BK109.out 0).trans rfl; have hcz135_1 : wr.cell? ⟨gb109, 1, none⟩ = some (.int .i64 x110001_1) := (blk_cell BK109.out 1).trans rfl; have hfz135_0 := blk_frozen BK109.out 0; have hfz135_1 := blk_frozen BK109.out 1))
                                          refine bodyPost_ret (results_tc rfl _ _ gb109 25 #[.int .i64 x5_1, .int .i64 1] (0, 0) _ rfl (by (with_reducible repeat (first | refine blk_drewN ?_ _ | refine blk_drew ?_ | refine blk_alloc ?_ _)); refine blk_put (cs := #[.int .i64 x5_1, .int .i64 x110001_1]) ?_ 1 _ rfl; (with_reducible repeat (first | refine blk_drewN ?_ _ | refine blk_drew ?_ | refine blk_alloc ?_ _)); refine blk_put (cs := #[.int .i64 x110000_1, .int .i64 x110001_1]) ?_ 0 _ rfl; (with_reducible repeat (first | refine blk_drewN ?_ _ | refine blk_drew ?_ | refine blk_alloc ?_ _)); refine blk_far ?_ NB109_113.out _; (with_reducible repeat (first | refine blk_drewN ?_ _ | refine blk_drew ?_ | refine blk_alloc ?_ _)); refine blk_far ?_ NB109_113.out _; (with_reducible repeat (first | refine blk_drewN ?_ _ | refine blk_drew ?_ | refine blk_alloc ?_ _)); exact BK109.out) Tryd.underlying25 rfl (by kernel_rfl)) rfl ?_
                                          exact ⟨_, by first | rfl | (simp [errW_none, errW_some] <;> rfl) | (simp [*, errW_none, errW_some] <;> rfl), by first | exact Kd.R_nil _ _ _ _ _ | exact Kd.N_nil _ _ _ _ _ | exact Kd.V_nil _ _ _ _ _ | exact Kd.Q_nil _ _ _ _ _ | exact Kd.S_nil _ _ _ _ _, by repeat (first | (with_reducible first | exact HB.out | apply below_alloc | apply pw_below_drewN | apply below_drew1 | refine below_set ?_ GE109.out | refine below_set ?_ GE113.out) | exact HB.out)⟩
                                      · rw [if_neg c111] at H
                                        exact absurd H (by simp)
                                    · rw [if_neg c110] at H
                                      exact absurd H (by simp)
                                  · rw [if_neg c109] at H
                                    exact absurd H (by simp)
                          · replace c76 := Bool.eq_false_iff.mpr c76
                            subst c76
                            have H1 : ((drogueref03_sign.f kj69 (bt a0 x5_1)).bind fun t142 => (if t142 = true then (if true = true then (if 0 ≤ x5_1 then (if x5_1 ≤ (wrap64 (x5_1 + 1)) then (if (wrap64 (x5_1 + 1)) ≤ (a0.size : Int) then (if x4_1.length < 3518437208883 then (drogueref03_Lex.l0 kj69 a0 (x4_1 ++ [(⟨4, x5_1, a0.extract (x5_1 : Int).toNat ((wrap64 (x5_1 + 1)) : Int).toNat, 0⟩ : S36)]) (wrap64 (x5_1 + 1))) else (none)) else (none)) else (none)) else (none)) else (some (([] : List (S36)), x5_1, 1))) else (some (([] : List (S36)), x5_1, 1)))) = some (r1, r2, r3) := by rw [if_neg (show ¬ (false = true) by decide)] at H; exact H
                            clear H
                            have H := H1
                            clear H1
                            replace H := Option.bind_eq_some_iff.mp H
                            obtain ⟨t142, A1360, H⟩ := H
                            replace H : (if t142 = true then (if true = true then (if 0 ≤ x5_1 then (if x5_1 ≤ (wrap64 (x5_1 + 1)) then (if (wrap64 (x5_1 + 1)) ≤ (a0.size : Int) then (if x4_1.length < 3518437208883 then (drogueref03_Lex.l0 kj69 a0 (x4_1 ++ [(⟨4, x5_1, a0.extract (x5_1 : Int).toNat ((wrap64 (x5_1 + 1)) : Int).toNat, 0⟩ : S36)]) (wrap64 (x5_1 + 1))) else (none)) else (none)) else (none)) else (none)) else (some (([] : List (S36)), x5_1, 1))) else (some (([] : List (S36)), x5_1, 1))) = some (r1, r2, r3) := H
                            have A136 := Aside0.mk A1360
                            clear A1360
                            by_cases c137 : t142 = true
                            · subst c137
                              have H1 : (if true = true then (if 0 ≤ x5_1 then (if x5_1 ≤ (wrap64 (x5_1 + 1)) then (if (wrap64 (x5_1 + 1)) ≤ (a0.size : Int) then (if x4_1.length < 3518437208883 then (drogueref03_Lex.l0 kj69 a0 (x4_1 ++ [(⟨4, x5_1, a0.extract (x5_1 : Int).toNat ((wrap64 (x5_1 + 1)) : Int).toNat, 0⟩ : S36)]) (wrap64 (x5_1 + 1))) else (none)) else (none)) else (none)) else (none)) else (some (([] : List (S36)), x5_1, 1))) = some (r1, r2, r3) := by rw [if_pos rfl] at H; exact H
                              clear H
                              have H := H1
                              clear H1
                              by_cases c138 : true = true
                              · clear c138
                                have H1 : (if 0 ≤ x5_1 then (if x5_1 ≤ (wrap64 (x5_1 + 1)) then (if (wrap64 (x5_1 + 1)) ≤ (a0.size : Int) then (if x4_1.length < 3518437208883 then (drogueref03_Lex.l0 kj69 a0 (x4_1 ++ [(⟨4, x5_1, a0.extract (x5_1 : Int).toNat ((wrap64 (x5_1 + 1)) : Int).toNat, 0⟩ : S36)]) (wrap64 (x5_1 + 1))) else (none)) else (none)) else (none)) else (none)) = some (r1, r2, r3) := by rw [if_pos rfl] at H; exact H
                                clear H
                                have H := H1
                                clear H1
                                by_cases c139 : 0 ≤ x5_1
                                · rw [if_pos c139] at H
                                  have c139b0 := eq_true c139
                                  have c139b1 : decide (0 ≤ x5_1) = true := decide_eq_true c139
                                  clear c139
                                  by_cases c140 : x5_1 ≤ (wrap64 (x5_1 + 1))
                                  · rw [if_pos c140] at H
                                    have c140b0 := eq_true c140
                                    have c140b1 : decide (x5_1 ≤ (wrap64 (x5_1 + 1))) = true := decide_eq_true c140
                                    by_cases c141 : (wrap64 (x5_1 + 1)) ≤ (a0.size : Int)
                                    · rw [if_pos c141] at H
                                      have c141b0 := eq_true c141
                                      have c141b1 : decide ((wrap64 (x5_1 + 1)) ≤ (a0.size : Int)) = true := decide_eq_true c141
                                      by_cases c142 : x4_1.length < 3518437208883
                                      · rw [if_pos c142] at H
                                        have LMc142 := Aside0.mk c142
                                        clear c142
                                        obtain ⟨y143, hy143⟩ : ∃ y_ : List (S36), y_ = (x4_1 ++ [(⟨4, x5_1, a0.extract (x5_1 : Int).toNat ((wrap64 (x5_1 + 1)) : Int).toNat, 0⟩ : S36)]) := ⟨_, rfl⟩
                                        replace H : (drogueref03_Lex.l0 kj69 a0 y143 (wrap64 (x5_1 + 1))) = some (r1, r2, r3) := by first | (rw [hy143]; with_reducible exact H) | (have H2_ := (Option.bind_some _ _).symm.trans H; rw [hy143]; with_reducible exact H2_) | (have H2_ := (Option.bind_some _ _).symm.trans H; with_reducible exact H2_) | with_reducible exact H | (rw [hy143]; exact H) | exact H
                                        have Ny143 := Aside0.mk hy143
                                        clear hy143
                                        have H' := Aside0.mk H
                                        clear H
                                        go_wp2_with (first | ((with_reducible refine gate_callee (f := 24) rfl ?_); refine goesL_ (some 132) rfl rfl Tryd.func24 (by kernel_rfl) rfl #[.int .u8 (bt a0 x5_1)] rfl (by (try simp only [List.map_toArray, List.map_cons, List.map_nil]); first | done | rfl | (simp only [List.length_drop, List.length_take]; rfl)) ?_; (with_reducible refine (drogueref03_sign.calls kj69 (bt a0 x5_1) true _ A136.out).mono ?_); rintro e w' ⟨rfl, ⟨nd, rfl⟩⟩; refine ⟨_, rfl, ?_⟩; (try (rw [drewN_self wc]; generalize hq_ : World.drewN wc _ = wc; have n0_ : Aside0 (Kd.R k36 36 wc w.heap.size (fun k_ => k_ ≠ gb113) u4 x4_1) := ⟨by rw [← hq_]; exact (by (with_reducible repeat (first | apply Kd.R_alloc | apply Kd.R_drewN | apply Kd.R_drew)); exact HO_4.out)⟩; have n1_ : Aside0 (wc.heap[gb109]? = some (.cells #[.int .i64 x110000_1, .int .i64 x110001_1] 25 (0, 0))) := ⟨by rw [← hq_]; exact (by (with_reducible repeat (first | refine blk_drewN ?_ _ | refine blk_drew ?_ | refine blk_alloc ?_ _)); exact BK109.out)⟩; have n2_ : Aside0 (wc.heap[gb113]? = some (.cells #[.int .i64 0, .int .i64 x5_1, .string (⟨#[]⟩ : ByteArray), .int .i64 0] 36 (0, 0))) := ⟨by rw [← hq_]; exact (by (with_reducible repeat (first | refine blk_drewN ?_ _ | refine blk_drew ?_ | refine blk_alloc ?_ _)); exact BK113.out)⟩; have n3_ : Aside0 (Below w.heap.size w wc) := ⟨by rw [← hq_]; exact (by repeat (first | (with_reducible first | exact HB.out | apply below_alloc | apply pw_below_drewN | apply below_drew1 | refine below_set ?_ GE109.out | refine below_set ?_ GE113.out) | exact HB.out))⟩; clear HO_4 BK109 BK113 HB hq_; have HO_4 := n0_; have BK109 := n1_; have BK113 := n2_; have HB := n3_; clear n0_ n1_ n2_ n3_)); have hnb143 := NB113_109.out; have hnc143 := NB109_113.out; have hcz144_0 : wc.cell? ⟨gb113, 0, none⟩ = some (.int .i64 0) := (blk_cell BK113.out 0).trans rfl; have hcz144_1 : wc.cell? ⟨gb113, 1, none⟩ = some (.int .i64 x5_1) := (blk_cell BK113.out 1).trans rfl; have hcz144_2 : wc.cell? ⟨gb113, 2, none⟩ = some (.string (⟨#[]⟩ : ByteArray)) := (blk_cell BK113.out 2).trans rfl; have hcz144_3 : wc.cell? ⟨gb113, 3, none⟩ = some (.int .i64 0) := (blk_cell BK113.out 3).trans rfl; have hfz144_0 := blk_frozen BK113.out 0; have hfz144_1 := blk_frozen BK113.out 1; have hfz144_2 := blk_frozen BK113.out 2; have hfz144_3 := blk_frozen BK113.out 3) | ((with_reducible refine gate_builtin (b := .append) (xs := #[.tmp 143, .tmp 145]) rfl ?_); at_builtin; refine Kd.R_append k36 (w0 := w) w.heap.size rfl (.tmp 143) (.tmp 145) 28 36 (.agg #[(.int .i64 0), (.int .i64 0), (.string ⟨#[]⟩), (.int .i64 0)]) 40 rfl Tryd.underlying28 info36 rfl (by decide) (by omega) u4 x4_1 (⟨4, x5_1, a0.extract (x5_1 : Int).toNat ((wrap64 (x5_1 + 1)) : Int).toNat, 0⟩ : S36) [.int .i64 4, .int .i64 x5_1, .string (a0.extract (x5_1 : Int).toNat ((wrap64 (x5_1 + 1)) : Int).toNat), .int .i64 0] (fun k_ => k_ ≠ gb113) (fun _ => False) rfl (by first | (go_simp; done) | (go_simp; rfl)) ?aP (fun _ hk => hk.elim) ?aF ?aO ?aB ?aS ?aL ?_; (case aP => exact k36_mkM _ _ _ (⟨4, x5_1, a0.extract (x5_1 : Int).toNat ((wrap64 (x5_1 + 1)) : Int).toNat, 0⟩ : S36)); (case aB => exact (by repeat (first | (with_reducible first | exact HB.out | apply below_alloc | apply pw_below_drewN | apply below_drew1 | refine below_set ?_ GE109.out | refine below_set ?_ GE113.out) | exact HB.out))); (case aF => exact (fun k_ hk => Kd.freshB (g := gb113) (o := .cells #[.int .i64 4, .int .i64 x5_1, .string (a0.extract (x5_1 : Int).toNat ((wrap64 (x5_1 + 1)) : Int).toNat), .int .i64 0] 36 (0, 0)) (by (with_reducible repeat (first | refine blk_drewN ?_ _ | refine blk_drew ?_ | refine blk_alloc ?_ _)); refine blk_put (cs := #[.int .i64 4, .int .i64 x5_1, .string (⟨#[]⟩ : ByteArray), .int .i64 0]) ?_ 2 _ rfl; (with_reducible repeat (first | refine blk_drewN ?_ _ | refine blk_drew ?_ | refine blk_alloc ?_ _)); refine blk_put (cs := #[.int .i64 0, .int .i64 x5_1, .string (⟨#[]⟩ : ByteArray), .int .i64 0]) ?_ 0 _ rfl; (with_reducible repeat (first | refine blk_drewN ?_ _ | refine blk_drew ?_ | refine blk_alloc ?_ _)); exact BK113.out) k_ hk)); (case aO => exact (by (with_reducible repeat (first | apply Kd.R_alloc | apply Kd.R_drewN | apply Kd.R_drew)); exact Kd.R_mono (Kd.R_far (p := ⟨gb113, 2, none⟩) (Kd.R_far (p := ⟨gb113, 0, none⟩) (Kd.R_mono HO_4.out (fun k_ hk => (⟨hk, hk⟩ : _ ∧ k_ ≠ gb113))) (fun _ hk => hk.2) (.int .i64 4)) (fun _ hk => hk.2) (.string (a0.extract (x5_1 : Int).toNat ((wrap64 (x5_1 + 1)) : Int).toNat))) (fun _ hk => hk.1))); (case aS => exact (below_size (by repeat (first | (with_reducible first | exact HB.out | apply below_alloc | apply pw_below_drewN | apply below_drew1 | refine below_set ?_ GE109.out | refine below_set ?_ GE113.out) | exact HB.out)))); (case aL => have := LMc142.out; omega); intro v144 w145 ho hb hg hat; rw [← Ny143.out] at ho; have n0_ := Aside0.mk (blk_grown (g := gb109) (o := .cells #[.int .i64 x110000_1, .int .i64 x110001_1] 25 (0, 0)) (by (with_reducible repeat (first | refine blk_drewN ?_ _ | refine blk_drew ?_ | refine blk_alloc ?_ _)); refine blk_far ?_ NB109_113.out _; (with_reducible repeat (first | refine blk_drewN ?_ _ | refine blk_drew ?_ | refine blk_alloc ?_ _)); refine blk_far ?_ NB109_113.out _; (with_reducible repeat (first | refine blk_drewN ?_ _ | refine blk_drew ?_ | refine blk_alloc ?_ _)); exact BK109.out) hg (Kd.R_ne HO_4.out BK109.out (by decide))); have n1_ := Aside0.mk (blk_grown (g := gb113) (o := .cells #[.int .i64 4, .int .i64 x5_1, .string (a0.extract (x5_1 : Int).toNat ((wrap64 (x5_1 + 1)) : Int).toNat), .int .i64 0] 36 (0, 0)) (by (with_reducible repeat (first | refine blk_drewN ?_ _ | refine blk_drew ?_ | refine blk_alloc ?_ _)); refine blk_put (cs := #[.int .i64 4, .int .i64 x5_1, .string (⟨#[]⟩ : ByteArray), .int .i64 0]) ?_ 2 _ rfl; (with_reducible repeat (first | refine blk_drewN ?_ _ | refine blk_drew ?_ | refine blk_alloc ?_ _)); refine blk_put (cs := #[.int .i64 0, .int .i64 x5_1, .string (⟨#[]⟩ : ByteArray), .int .i64 0]) ?_ 0 _ rfl; (with_reducible repeat (first | refine blk_drewN ?_ _ | refine blk_drew ?_ | refine blk_alloc ?_ _)); exact BK113.out) hg (Kd.R_away HO_4.out (fun _ hk => hk))); have n2_ := Aside0.mk (hb); have n3_ := Aside0.mk (ho); clear BK109; clear BK113; clear HB; clear HO_4; have BK109 := n0_; have BK113 := n1_; have HB := n2_; have HO145 := n3_; clear n0_ n1_ n2_ n3_; clear ho hb hg hat))
                                        go_roundg kj69
                                        case measure => have := HK1.out; have := HJ10.out; have := HJ69.out; omega
                                        case rel => exact ⟨(y143), ((wrap64 (x5_1 + 1))), (x110000_1), (x110001_1), (by first | rfl | (simp; done) | (simp [*]; done)), H', ⟨by have := HK1.out; have := HJ10.out; have := HJ69.out; omega⟩, ⟨by (with_reducible repeat (first | apply Kd.R_alloc | apply Kd.R_drewN | apply Kd.R_drew)); exact Kd.R_mono HO145.out (fun _ hk => trivial)⟩, ⟨by (with_reducible repeat (first | refine blk_drewN ?_ _ | refine blk_drew ?_ | refine blk_alloc ?_ _)); exact BK109.out⟩, ⟨by repeat (first | (with_reducible first | exact HB.out | apply below_alloc | apply pw_below_drewN | apply below_drew1 | refine below_set ?_ GE109.out | refine below_set ?_ GE113.out) | exact HB.out)⟩⟩
                                      · rw [if_neg c142] at H
                                        exact absurd H (by simp)
                                    · rw [if_neg c141] at H
                                      exact absurd H (by simp)
                                  · rw [if_neg c140] at H
                                    exact absurd H (by simp)
                                · rw [if_neg c139] at H
                                  exact absurd H (by simp)
                              · exact absurd rfl c138
                            · replace c137 := Bool.eq_false_iff.mpr c137
                              subst c137
                              have H1 : (some (([] : List (S36)), x5_1, 1)) = some (r1, r2, r3) := by rw [if_neg (show ¬ (false = true) by decide)] at H; exact H
                              clear H
                              have H := H1
                              clear H1
                              simp only [Option.some.injEq, Prod.mk.injEq] at H
                              obtain ⟨rfl, rfl, rfl⟩ := H
                              go_wp2_with (first | ((with_reducible refine gate_callee (f := 24) rfl ?_); refine goesL_ (some 132) rfl rfl Tryd.func24 (by kernel_rfl) rfl #[.int .u8 (bt a0 x5_1)] rfl (by (try simp only [List.map_toArray, List.map_cons, List.map_nil]); first | done | rfl | (simp only [List.length_drop, List.length_take]; rfl)) ?_; (with_reducible refine (drogueref03_sign.calls kj69 (bt a0 x5_1) false _ A136.out).mono ?_); rintro e w' ⟨rfl, ⟨nd, rfl⟩⟩; refine ⟨_, rfl, ?_⟩; (try (rw [drewN_self wc]; generalize hq_ : World.drewN wc _ = wc; have n0_ : Aside0 (Kd.R k36 36 wc w.heap.size (fun k_ => k_ ≠ gb113) u4 x4_1) := ⟨by rw [← hq_]; exact (by (with_reducible repeat (first | apply Kd.R_alloc | apply Kd.R_drewN | apply Kd.R_drew)); exact HO_4.out)⟩; have n1_ : Aside0 (wc.heap[gb109]? = some (.cells #[.int .i64 x110000_1, .int .i64 x110001_1] 25 (0, 0))) := ⟨by rw [← hq_]; exact (by (with_reducible repeat (first | refine blk_drewN ?_ _ | refine blk_drew ?_ | refine blk_alloc ?_ _)); exact BK109.out)⟩; have n2_ : Aside0 (wc.heap[gb113]? = some (.cells #[.int .i64 0, .int .i64 x5_1, .string (⟨#[]⟩ : ByteArray), .int .i64 0] 36 (0, 0))) := ⟨by rw [← hq_]; exact (by (with_reducible repeat (first | refine blk_drewN ?_ _ | refine blk_drew ?_ | refine blk_alloc ?_ _)); exact BK113.out)⟩; have n3_ : Aside0 (Below w.heap.size w wc) := ⟨by rw [← hq_]; exact (by repeat (first | (with_reducible first | exact HB.out | apply below_alloc | apply pw_below_drewN | apply below_drew1 | refine below_set ?_ GE109.out | refine below_set ?_ GE113.out) | exact HB.out))⟩; clear HO_4 BK109 BK113 HB hq_; have HO_4 := n0_; have BK109 := n1_; have BK113 := n2_; have HB := n3_; clear n0_ n1_ n2_ n3_)); have hnb149 := NB109_113.out; have hnc149 := NB113_109.out; have hcz150_0 : wc.cell? ⟨gb109, 0, none⟩ = some (.int .i64 x110000_1) := (blk_cell BK109.out 0).trans rfl; have hcz150_1 : wc.cell? ⟨gb109, 1, none⟩ = some (.int .i64 x110001_1) := (blk_cell BK109.out 1).trans rfl; have hfz150_0 := blk_frozen BK109.out 0; have hfz150_1 := blk_frozen BK109.out 1))
                              refine bodyPost_ret (results_tc rfl _ _ gb109 25 #[.int .i64 x5_1, .int .i64 1] (0, 0) _ rfl (by (with_reducible repeat (first | refine blk_drewN ?_ _ | refine blk_drew ?_ | refine blk_alloc ?_ _)); refine blk_put (cs := #[.int .i64 x5_1, .int .i64 x110001_1]) ?_ 1 _ rfl; (with_reducible repeat (first | refine blk_drewN ?_ _ | refine blk_drew ?_ | refine blk_alloc ?_ _)); refine blk_put (cs := #[.int .i64 x110000_1, .int .i64 x110001_1]) ?_ 0 _ rfl; (with_reducible repeat (first | refine blk_drewN ?_ _ | refine blk_drew ?_ | refine blk_alloc ?_ _)); exact BK109.out) Tryd.underlying25 rfl (by kernel_rfl)) rfl ?_
                              exact ⟨_, by first | rfl | (simp [errW_none, errW_some] <;> rfl) | (simp [*, errW_none, errW_some] <;> rfl), by first | exact Kd.R_nil _ _ _ _ _ | exact Kd.N_nil _ _ _ _ _ | exact Kd.V_nil _ _ _ _ _ | exact Kd.Q_nil _ _ _ _ _ | exact Kd.S_nil _ _ _ _ _, by repeat (first | (with_reducible first | exact HB.out | apply below_alloc | apply pw_below_drewN | apply below_drew1 | refine below_set ?_ GE109.out | refine below_set ?_ GE113.out) | exact HB.out)⟩
          · rw [if_neg c9] at H
            exact absurd H (by simp)
        · rw [if_neg c8] at H
          have c8b0 : decide (x5_1 < (a0.size : Int)) = false := decide_eq_false c8
          clear c8
          simp only [Option.some.injEq, Prod.mk.injEq] at H
          obtain ⟨rfl, rfl, rfl⟩ := H
          have hcz151_0 : wr.cell? ⟨gb109, 0, none⟩ = some (.int .i64 x110000_1) := (blk_cell BK109.out 0).trans rfl
          have hcz151_1 : wr.cell? ⟨gb109, 1, none⟩ = some (.int .i64 x110001_1) := (blk_cell BK109.out 1).trans rfl
          have hfz151_0 := blk_frozen BK109.out 0
          have hfz151_1 := blk_frozen BK109.out 1
          go_wp2
          refine bodyPost_ret (results_tc rfl _ _ gb109 25 #[.int .i64 0, .int .i64 0] (0, 0) _ rfl (by (with_reducible repeat (first | refine blk_drewN ?_ _ | refine blk_drew ?_ | refine blk_alloc ?_ _)); refine blk_put (cs := #[.int .i64 0, .int .i64 x110001_1]) ?_ 1 _ rfl; (with_reducible repeat (first | refine blk_drewN ?_ _ | refine blk_drew ?_ | refine blk_alloc ?_ _)); refine blk_put (cs := #[.int .i64 x110000_1, .int .i64 x110001_1]) ?_ 0 _ rfl; (with_reducible repeat (first | refine blk_drewN ?_ _ | refine blk_drew ?_ | refine blk_alloc ?_ _)); exact BK109.out) Tryd.underlying25 rfl (by kernel_rfl)) rfl ?_
          exact ⟨_, by first | rfl | (simp [errW_none, errW_some] <;> rfl) | (simp [*, errW_none, errW_some] <;> rfl), by (with_reducible repeat (first | apply Kd.R_alloc | apply Kd.R_drewN | apply Kd.R_drew)); exact Kd.R_mono (Kd.R_far (p := ⟨gb109, 1, none⟩) (Kd.R_far (p := ⟨gb109, 0, none⟩) (Kd.R_types HO_4.out BK109.out (by decide)) (fun _ hk => hk.2) (.int .i64 0)) (fun _ hk => hk.2) (.int .i64 0)) (fun _ hk => trivial), by repeat (first | (with_reducible first | exact HB.out | apply below_alloc | apply pw_below_drewN | apply below_drew1 | refine below_set ?_ GE109.out) | exact HB.out)⟩

end Go.Proofs.YtnlbbpandnpgoaaDoor.PL
