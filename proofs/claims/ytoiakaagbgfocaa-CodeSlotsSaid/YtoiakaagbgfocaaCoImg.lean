/- Package code: Right: its contract. -/
import Derived.Test.YtoiakaagbgfocaaCoGlue
import Derived.Test.YtoiakaagbgfocaaCoRight
namespace Go.Proofs.Ytoiakaagbgfocaa.PC
open Go.RowKit Go.Proofs.YtoiakaagbgfocaaW.PrintWords Go.Proofs.YtoiakaagbgfocaaW.PrintLast Go.Proofs.YtoiakaagbgfocaaW.PrintMore
set_option linter.unusedVariables false
set_option linter.unusedSimpArgs false

def allG (gs : List S48) : Nat → Nat → Bool
  | 0, _ => true
  | n + 1, k => glueB gs (k : Int) && allG gs n (k + 1)
/-- the judge of a code, wherever its rows lie -/
abbrev jdOf (gs : List S48) (cs : List S40) (m : Int) (x : S40) (A0 A1 A6 A7 : Option Addr) (c0 c1 c6 c7 : Nat) : Jd := ⟨A0, c0, gs, A1, c1, cs, m, x.f0, x.f1, x.f2, A6, c6, x.f3, A7, c7, x.f4⟩
def codeB (gs : List S48) (cs : List S40) (m : Int) (x : S40) : Bool := (jdOf gs cs m x none none none none 0 0 0 0).rightB
theorem codeB_of (gs : List S48) (cs : List S40) (m : Int) (x : S40) (A0 A1 A6 A7 : Option Addr) (c0 c1 c6 c7 : Nat) : (jdOf gs cs m x A0 A1 A6 A7 c0 c1 c6 c7).rightB = codeB gs cs m x := rfl
def mainB (cs : List S40) (m : Int) : Bool := ((rd_T40 cs m).f1 == 0) && ((rd_T40 cs m).f2 == 1)
/-- is an image right -/
def imgB (gs : List S48) (cs : List S40) (m : Int) : Bool :=
  decide (gs.length ≤ 512) && (inB (cs.length : Int) 1 16 && (inB m 0 (wrap64 ((cs.length : Int) - 1)) && (allG gs gs.length 0 && ((cs.all fun x => codeB gs cs m x) && mainB cs m))))
structure In1i (j : Im) (w W : World) : Prop where mk :: (b1 : Blk W w.heap.size j.cells 25) (bel : Below w.heap.size w W)
theorem In1i.below {j : Im} {w W W' : World} (h : In1i j w W) (hb : Below W.heap.size W W') : In1i j w W' := ⟨h.b1.below hb, below_step h.bel hb⟩
theorem In1i.new (j : Im) (w : World) : In1i j w (w.alloc (.cells j.cells 25)) := ⟨Blk.new w j.cells 25, below_alloc (Below.refl _ _) _⟩
set_option maxHeartbeats 8000000 in
set_option maxRecDepth 100000 in
theorem img_calls (j : Im) (w : World) (hj : j.In w) (hl : j.g.length ≤ 1000000) (hcl : j.cs.length ≤ 1000000) : Calls Try.prog 11 #[j.val] w fun e w' => e = .returned (.bool (imgB j.g j.cs j.m)) ∧ Below w.heap.size w w' := by
  have HJ := Lib.hid hj
  have HL := Lib.hid hl
  have HCL := Lib.hid hcl
  clear hj hl hcl
  unfold imgB
  go_enter Try.func11, Try.ntmps11
  cases ht1 : decide (j.g.length ≤ 512) with
  | false =>
    have g1 : decide (512 < j.g.length) = true := by simpa using ht1
    have g2 : decide (512 < (j.g.length : Int)) = true := by simp at ht1 ⊢; omega
    have g3 : decide ((j.g.length : Int) > 512) = true := g2
    go_wp2_with fail
    go_ret
    exact ⟨by simp [ht1], (In1i.new j w).bel⟩
  | true =>
    have g1 : decide (512 < j.g.length) = false := by simpa using ht1
    have g2 : decide (512 < (j.g.length : Int)) = false := by simp at ht1 ⊢; omega
    have g3 : decide ((j.g.length : Int) > 512) = false := g2
    go_wp2_with fail
    refine at_world (fun W => In1i j w W) (In1i.new j w) ?_
    rintro W0 HB
    refine (within_c (j.cs.length : Int) 1 16 _).mono ?_
    rintro e w1 ⟨rfl, hb⟩
    replace HB := HB.below hb
    clear hb
    obtain ⟨⟨d0, d1, d2⟩, _⟩ := HB.b1.cells3
    cases ht2 : inB (j.cs.length : Int) 1 16 with
    | false =>
      go_wp2_with fail
      go_ret
      exact ⟨by simp [ht1, ht2], HB.bel⟩
    | true =>
      have wl : IntKind.i64.wrap ((j.cs.length : Int) - 1) = wrap64 ((j.cs.length : Int) - 1) := by rw [i64_w]
      go_wp2_with fail
      refine (within_c j.m 0 (wrap64 ((j.cs.length : Int) - 1)) _).mono ?_
      rintro e w2 ⟨rfl, hb⟩
      replace HB := HB.below hb
      clear hb d0 d1 d2
      obtain ⟨⟨d0, d1, d2⟩, _⟩ := HB.b1.cells3
      cases ht3 : inB j.m 0 (wrap64 ((j.cs.length : Int) - 1)) with
      | false =>
        go_wp2_with fail
        go_ret
        exact ⟨by simp [ht1, ht2, ht3], HB.bel⟩
      | true =>
        go_wp2_with fail
        clear d0 d1 d2
        obtain ⟨bg, hbg⟩ : ∃ bg, bg = allG j.g j.g.length 0 := ⟨_, rfl⟩
        have HBG := Lib.hid hbg
        clear hbg
        go_loopg [31] j.g.length (fun kq v31 w' => ∃ x : Nat, v31 = .int .i64 (x : Int) ∧ Aside0 (x + kq = j.g.length) ∧ Aside0 (allG j.g kq x = bg) ∧ In1i j w w')
        case atStart => exact ⟨0, rfl, ⟨by omega⟩, ⟨HBG.out.symm⟩, HB⟩
        case round =>
          clear HB
          obtain ⟨x, rfl, HX, HA, HB⟩ := hrel
          obtain ⟨⟨d0, d1, d2⟩, _⟩ := HB.b1.cells3
          cases gk with
          | zero =>
            have cx : decide (x < j.g.length) = false := decide_eq_false (by have := HX.out; omega)
            have cx' : decide ((x : Int) < (j.g.length : Int)) = false := decide_eq_false (by have := HX.out; omega)
            have ht4 : Hid (allG j.g j.g.length 0 = true) := Lib.hid (by rw [← HBG.out, ← HA.out]; rfl)
            clear HA HBG
            go_wp2_with fail
            clear cx cx' d0 d1 d2 HX
            obtain ⟨bc, hbc⟩ : ∃ bc, bc = j.cs.all fun x => codeB j.g j.cs j.m x := ⟨_, rfl⟩
            have HBC := Lib.hid hbc
            clear hbc
            go_loopg [42] j.cs.length (fun kq v42 w' => ∃ y : Nat, v42 = .int .i64 (y : Int) ∧ Aside0 (y + kq = j.cs.length) ∧ Aside0 (((j.cs.drop y).all fun x => codeB j.g j.cs j.m x) = bc) ∧ In1i j w w')
            case atStart => exact ⟨0, rfl, ⟨by omega⟩, ⟨HBC.out.symm⟩, HB⟩
            case round =>
              clear HB
              obtain ⟨y, rfl, HY, HA, HB⟩ := hrel
              obtain ⟨⟨d0, d1, d2⟩, _⟩ := HB.b1.cells3
              cases gk with
              | zero =>
                have cy : decide (y < j.cs.length) = false := decide_eq_false (by have := HY.out; omega)
                have cy' : decide ((y : Int) < (j.cs.length : Int)) = false := decide_eq_false (by have := HY.out; omega)
                have ht5 : Hid ((j.cs.all fun x => codeB j.g j.cs j.m x) = true) := Lib.hid (by
                  rw [← HBC.out, ← HA.out, List.drop_eq_nil_of_le (by have := HY.out; omega)]
                  rfl)
                clear HA HBC
                have hmb : 0 ≤ j.m ∧ j.m < (j.cs.length : Int) := by
                  have h1 : 0 ≤ j.m ∧ j.m ≤ wrap64 ((j.cs.length : Int) - 1) := by simpa [inB] using ht3
                  have h2 : 1 ≤ (j.cs.length : Int) ∧ (j.cs.length : Int) ≤ 16 := by simpa [inB] using ht2
                  have w1 : wrap64 ((j.cs.length : Int) - 1) = (j.cs.length : Int) - 1 := by unfold wrap64; omega
                  omega
                obtain ⟨mn, hmn⟩ : ∃ mn : Nat, j.m = (mn : Int) := ⟨j.m.toNat, by omega⟩
                obtain ⟨ad, A3, c3, A4, c4, ea, hx0, hx1, hx2, hx3, hx4, b3, h3, b4, h4⟩ := at_T40 (HJ.out.below rfl HB.bel).h1 (mn : Int) (by omega) (by omega)
                simp only [Int.toNat_natCast] at hx0 hx1 hx2 hx3 hx4
                have p1 : (mn < j.cs.length) = True := eq_true (by omega)
                have p2 : (0 ≤ (mn : Int)) = True := eq_true (by omega)
                have p3 : ((mn : Int) < (j.cs.length : Int)) = True := eq_true (by omega)
                have HM : Hid (mainB j.cs j.m = (((rd_T40 j.cs (mn : Int)).f1 == 0) && ((rd_T40 j.cs (mn : Int)).f2 == 1))) := Lib.hid (by unfold mainB; rw [hmn])
                generalize rd_T40 j.cs (mn : Int) = q at *
                rw [hmn] at d2
                rw [ea] at d1
                have HEa := Lib.hid ea
                clear hmb h3 b3 h4 b4 hmn ea
                have hb0 := below_alloc (Below.refl wr.heap.size wr) (.cells #[.int .i64 q.f0, .int .i64 q.f1, .int .i64 q.f2, .slice A3 q.f3.length c3, .slice A4 q.f4.length c4] 40)
                cases k1 : (q.f1 == 0) with
                | true =>
                  go_wp2_with fail
                  go_ret
                  exact ⟨by simp [ht1, ht2, ht3, ht4.out, ht5.out, HM.out, k1], (HB.below hb0).bel⟩
                | false =>
                  go_wp2_with fail
                  go_ret
                  exact ⟨by simp [ht1, ht2, ht3, ht4.out, ht5.out, HM.out, k1], (HB.below hb0).bel⟩
              | succ kk =>
                have hyl : y < j.cs.length := by have := HY.out; omega
                have cy : decide (y < j.cs.length) = true := decide_eq_true hyl
                have cy' : decide ((y : Int) < (j.cs.length : Int)) = true := decide_eq_true (by omega)
                have wy : IntKind.i64.wrap ((y : Int) + 1) = ((y + 1 : Nat) : Int) := by rw [i64_w]; unfold wrap64; have := HCL.out; omega
                obtain ⟨ad, A3, c3, A4, c4, ea, hx0, hx1, hx2, hx3, hx4, b3, h3, b4, h4⟩ := at_T40 (HJ.out.below rfl HB.bel).h1 (y : Int) (by omega) (by omega)
                simp only [Int.toNat_natCast] at hx0 hx1 hx2 hx3 hx4
                have hd : j.cs.drop y = rd_T40 j.cs (y : Int) :: j.cs.drop (y + 1) := by
                  rw [List.drop_eq_getElem_cons hyl]
                  simp [rd_T40, List.getD, hyl]
                have hA := HA.out
                rw [hd, List.all_cons] at hA
                clear HA hd
                have p1 := eq_true hyl
                have p2 : (0 ≤ (y : Int)) = True := eq_true (by omega)
                have p3 : ((y : Int) < (j.cs.length : Int)) = True := eq_true (by omega)
                generalize rd_T40 j.cs (y : Int) = q at *
                have HQ := Lib.hid (show (jdOf j.g j.cs j.m q j.A0 j.A1 A3 A4 j.c0 j.c1 c3 c4).In wr from ⟨(HJ.out.below rfl HB.bel).h0, HJ.out.b0, (HJ.out.below rfl HB.bel).h1, HJ.out.b1, h3, b3, h4, b4⟩)
                have HRt := Lib.hid (fun W (h : (jdOf j.g j.cs j.m q j.A0 j.A1 A3 A4 j.c0 j.c1 c3 c4).In W) => right_calls (jdOf j.g j.cs j.m q j.A0 j.A1 A3 A4 j.c0 j.c1 c3 c4) W h HCL.out)
                clear hyl h3 b3 h4 b4
                have f0 := fun o => cell_al d0 o
                have f1 := fun o => cell_al d1 o
                have f2 := fun o => cell_al d2 o
                rw [ea] at f1 d1 ⊢
                have HEa := Lib.hid ea
                cases hq : codeB j.g j.cs j.m q with
                | true =>
                  rw [hq, Bool.true_and] at hA
                  have HA2 := Lib.hid hA
                  clear hA
                  go_wp2_with fail
                  have hb0 := below_alloc (Below.refl wr.heap.size wr) (.cells #[.int .i64 q.f0, .int .i64 q.f1, .int .i64 q.f2, .slice A3 q.f3.length c3, .slice A4 q.f4.length c4] 40)
                  rw [← HEa.out]
                  refine (HRt.out _ (HQ.out.below rfl hb0)).mono ?_
                  rw [codeB_of, hq]
                  rintro e w4 ⟨rfl, hb⟩
                  replace HB := (HB.below hb0).below hb
                  clear hb hb0 d0 d1 d2 f0 f1 f2 hq
                  (try rw [← HEa.out])
                  clear ea
                  go_wp2_with fail
                  (try rw [← HEa.out])
                  go_roundg kk
                  case measure => omega
                  case rel => exact ⟨y + 1, by simp [wy], ⟨by have := HY.out; omega⟩, ⟨HA2.out⟩, HB⟩
                | false =>
                  rw [hq, Bool.false_and] at hA
                  have ht5 : Hid ((j.cs.all fun x => codeB j.g j.cs j.m x) = false) := Lib.hid (by rw [← HBC.out, ← hA])
                  clear hA
                  go_wp2_with fail
                  have hb0 := below_alloc (Below.refl wr.heap.size wr) (.cells #[.int .i64 q.f0, .int .i64 q.f1, .int .i64 q.f2, .slice A3 q.f3.length c3, .slice A4 q.f4.length c4] 40)
                  rw [← HEa.out]
                  refine (HRt.out _ (HQ.out.below rfl hb0)).mono ?_
                  rw [codeB_of, hq]
                  rintro e w4 ⟨rfl, hb⟩
                  replace HB := (HB.below hb0).below hb
                  clear hb hb0 d0 d1 d2 f0 f1 f2 hq
                  go_wp2_with fail
                  go_ret
                  exact ⟨by simp [ht1, ht2, ht3, ht4.out, ht5.out], HB.bel⟩
          | succ kk =>
            have hxl : x < j.g.length := by have := HX.out; omega
            have cx : decide (x < j.g.length) = true := decide_eq_true hxl
            have cx' : decide ((x : Int) < (j.g.length : Int)) = true := decide_eq_true (by omega)
            have wx : IntKind.i64.wrap ((x : Int) + 1) = ((x + 1 : Nat) : Int) := by rw [i64_w]; unfold wrap64; have := HL.out; omega
            have HG := Lib.hid (glue_calls j x hxl wr (HJ.out.below rfl HB.bel) HL.out)
            have hA := HA.out
            unfold allG at hA
            clear HA hxl
            cases hq : glueB j.g (x : Int) with
            | true =>
              rw [hq] at HG hA
              rw [Bool.true_and] at hA
              have HA2 := Lib.hid hA
              clear hA hq
              go_wp2_with fail
              refine HG.out.mono ?_
              rintro e w3 ⟨rfl, hb⟩
              replace HB := HB.below hb
              clear hb d0 d1 d2
              go_wp2_with fail
              go_roundg kk
              case measure => omega
              case rel => exact ⟨x + 1, by simp [wx], ⟨by have := HX.out; omega⟩, ⟨HA2.out⟩, HB⟩
            | false =>
              rw [hq] at HG hA
              rw [Bool.false_and] at hA
              have ht4 : Hid (allG j.g j.g.length 0 = false) := Lib.hid (by rw [← HBG.out, ← hA])
              clear hA hq
              go_wp2_with fail
              refine HG.out.mono ?_
              rintro e w3 ⟨rfl, hb⟩
              replace HB := HB.below hb
              clear hb d0 d1 d2
              go_wp2_with fail
              go_ret
              exact ⟨by simp [ht1, ht2, ht3, ht4.out], HB.bel⟩
end Go.Proofs.Ytoiakaagbgfocaa.PC
