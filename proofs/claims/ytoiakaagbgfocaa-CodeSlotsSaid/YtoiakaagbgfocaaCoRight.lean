/- Package code: a judge's right: its contract. -/
import Derived.Test.YtoiakaagbgfocaaCoIdx
namespace Go.Proofs.Ytoiakaagbgfocaa.PC
open Go.RowKit Go.Proofs.YtoiakaagbgfocaaW.PrintWords Go.Proofs.YtoiakaagbgfocaaW.PrintLast Go.Proofs.YtoiakaagbgfocaaW.PrintMore
set_option linter.unusedVariables false
set_option linter.unusedSimpArgs false

/-- is a pad right -/
def Jd.padB (j : Jd) (x : S66) : Bool := inB x.f0 0 (wrap64 (x.f1 - 1)) && (decide (x.f1 ≤ (j.xs.length : Int)) && j.placeB x.f2)
theorem Jd.pad_calls (j : Jd) (x : S66) (w : World) (h : j.In w) : Calls Try.prog 43 #[j.val, .agg #[.int .i64 x.f0, .int .i64 x.f1, .int .i64 x.f2]] w fun e w' => e = .returned (.bool (j.padB x)) ∧ Below w.heap.size w w' := by
  refine code_judge_pad.calls j.A0 j.c0 j.g j.A1 j.c1 j.cs j.m j.s j.p j.r j.A6 j.c6 j.xs j.A7 j.c7 j.ps x.f0 x.f1 x.f2 _ w h.h0 h.b0 h.h1 h.b1 h.h6 h.b6 h.h7 h.b7 ?_
  unfold code_judge_pad.f code_judge_place.f Jd.padB Jd.placeB
  simp only [w64_b, wi_b, Option.bind_some]
  cases inB x.f0 0 (wrap64 (x.f1 - 1)) with
  | false => rfl
  | true =>
    rw [if_pos rfl]
    by_cases h1 : x.f1 ≤ (j.xs.length : Int)
    · rw [if_pos h1, decide_eq_true h1]
      rfl
    · rw [if_neg h1, decide_eq_false h1]
      rfl
def Jd.insB (j : Jd) (x : S42) : Bool := j.instB x.f0 x.f1 x.f2 x.f3
set_option maxHeartbeats 4000000 in
set_option maxRecDepth 100000 in
theorem right1_calls (j : Jd) (x : S42) (B : Nat) (w : World) (h : j.In w) (hcs : j.cs.length ≤ 1000000) (hB : Blk w B j.cells 58) : Calls Try.prog 39 #[.agg #[.int .i64 x.f0, .int .i64 x.f1, .int .i64 x.f2, .int .i64 x.f3], .pointer (some ⟨B, 0, none⟩)] w fun e w' => e = .returned (.bool (!j.insB x)) ∧ Below w.heap.size w w' := by
  have HR := Lib.hid (fun W (h : j.In W) => inst_calls j x.f0 x.f1 x.f2 x.f3 W h hcs)
  have HJ := Lib.hid h
  have HBl := Lib.hid hB
  have e0 := fun o => ((hB.alloc o).cells8).1
  have e1 := fun o => ((hB.alloc o).cells8).2.1
  have e2 := fun o => ((hB.alloc o).cells8).2.2.1
  have e3 := fun o => ((hB.alloc o).cells8).2.2.2.1
  have e4 := fun o => ((hB.alloc o).cells8).2.2.2.2.1
  have e5 := fun o => ((hB.alloc o).cells8).2.2.2.2.2.1
  have e6 := fun o => ((hB.alloc o).cells8).2.2.2.2.2.2.1
  have e7 := fun o => ((hB.alloc o).cells8).2.2.2.2.2.2.2
  clear h hB
  show Calls _ _ _ _ (fun e w' => e = .returned (.bool (!j.instB x.f0 x.f1 x.f2 x.f3)) ∧ _)
  generalize j.instB x.f0 x.f1 x.f2 x.f3 = b at *
  go_enter Try.func39, Try.ntmps39
  go_wp2_with fail
  have hb0 := below_alloc (Below.refl w.heap.size w) (.cells #[.int .i64 x.f0, .int .i64 x.f1, .int .i64 x.f2, .int .i64 x.f3] 42)
  refine (HR.out _ (HJ.out.below rfl hb0)).mono ?_
  rintro e w1 ⟨rfl, hb1⟩
  have HB := Aside0.mk (below_step hb0 hb1)
  clear hb0 hb1
  go_wp2_with fail
  go_ret
  exact ⟨rfl, HB.out⟩
set_option maxHeartbeats 4000000 in
set_option maxRecDepth 100000 in
theorem right2_calls (j : Jd) (x : S66) (B : Nat) (w : World) (h : j.In w) (hB : Blk w B j.cells 58) : Calls Try.prog 42 #[.agg #[.int .i64 x.f0, .int .i64 x.f1, .int .i64 x.f2], .pointer (some ⟨B, 0, none⟩)] w fun e w' => e = .returned (.bool (!j.padB x)) ∧ Below w.heap.size w w' := by
  have HR := Lib.hid (fun W (h : j.In W) => j.pad_calls x W h)
  have HJ := Lib.hid h
  have HBl := Lib.hid hB
  have e0 := fun o => ((hB.alloc o).cells8).1
  have e1 := fun o => ((hB.alloc o).cells8).2.1
  have e2 := fun o => ((hB.alloc o).cells8).2.2.1
  have e3 := fun o => ((hB.alloc o).cells8).2.2.2.1
  have e4 := fun o => ((hB.alloc o).cells8).2.2.2.2.1
  have e5 := fun o => ((hB.alloc o).cells8).2.2.2.2.2.1
  have e6 := fun o => ((hB.alloc o).cells8).2.2.2.2.2.2.1
  have e7 := fun o => ((hB.alloc o).cells8).2.2.2.2.2.2.2
  clear h hB
  generalize j.padB x = b at *
  go_enter Try.func42, Try.ntmps42
  go_wp2_with fail
  have hb0 := below_alloc (Below.refl w.heap.size w) (.cells #[.int .i64 x.f0, .int .i64 x.f1, .int .i64 x.f2] 66)
  refine (HR.out _ (HJ.out.below rfl hb0)).mono ?_
  rintro e w1 ⟨rfl, hb1⟩
  have HB := Aside0.mk (below_step hb0 hb1)
  clear hb0 hb1
  go_wp2_with fail
  go_ret
  exact ⟨rfl, HB.out⟩
/-- may a code end so -/
def lastB (op : Int) : Bool := (op == 16) || ((op == 22) || (op == 23))
/-- is the code right -/
def Jd.rightB (j : Jd) : Bool := inB j.s 1 4095 && (inB j.p 0 j.s && (inB j.r 1 64 && (inB (j.xs.length : Int) 1 1048576 && (decide (j.ps.length ≤ 1048576) && (j.xs.all j.insB && (j.ps.all j.padB && lastB (rd_T42 j.xs ((j.xs.length : Int) - 1)).f0))))))
/-- a judge's box, and what lay ahead -/
structure In1 (j : Jd) (w W : World) : Prop where mk :: (b1 : Blk W w.heap.size j.cells 58) (bel : Below w.heap.size w W)
theorem In1.below {j : Jd} {w W W' : World} (h : In1 j w W) (hb : Below W.heap.size W W') : In1 j w W' := ⟨h.b1.below hb, below_step h.bel hb⟩
theorem In1.new (j : Jd) (w : World) : In1 j w (w.alloc (.cells j.cells 58)) := ⟨Blk.new w j.cells 58, below_alloc (Below.refl _ _) _⟩
set_option maxHeartbeats 8000000 in
set_option maxRecDepth 100000 in
theorem right_calls (j : Jd) (w : World) (h : j.In w) (hcs : j.cs.length ≤ 1000000) : Calls Try.prog 25 #[j.val] w fun e w' => e = .returned (.bool j.rightB) ∧ Below w.heap.size w w' := by
  have HJ := Lib.hid h
  have HCS := Lib.hid hcs
  clear h hcs
  unfold Jd.rightB
  go_enter Try.func25, Try.ntmps25
  go_wp2_with fail
  refine at_world (fun W => In1 j w W) (In1.new j w) ?_
  rintro W0 HB
  refine (within_c j.s 1 4095 _).mono ?_
  rintro e w1 ⟨rfl, hb⟩
  replace HB := HB.below hb
  clear hb
  obtain ⟨e0, e1, e2, e3, e4, e5, e6, e7⟩ := HB.b1.cells8
  cases ht1 : inB j.s 1 4095 with
  | false =>
    go_wp2_with fail
    go_ret
    exact ⟨by simp [ht1], HB.bel⟩
  | true =>
    go_wp2_with fail
    refine (within_c j.p 0 j.s _).mono ?_
    rintro e w2 ⟨rfl, hb⟩
    replace HB := HB.below hb
    clear hb e0 e1 e2 e3 e4 e5 e6 e7
    obtain ⟨e0, e1, e2, e3, e4, e5, e6, e7⟩ := HB.b1.cells8
    cases ht2 : inB j.p 0 j.s with
    | false =>
      go_wp2_with fail
      go_ret
      exact ⟨by simp [ht1, ht2], HB.bel⟩
    | true =>
      go_wp2_with fail
      refine (within_c j.r 1 64 _).mono ?_
      rintro e w3 ⟨rfl, hb⟩
      replace HB := HB.below hb
      clear hb e0 e1 e2 e3 e4 e5 e6 e7
      obtain ⟨e0, e1, e2, e3, e4, e5, e6, e7⟩ := HB.b1.cells8
      cases ht3 : inB j.r 1 64 with
      | false =>
        go_wp2_with fail
        go_ret
        exact ⟨by simp [ht1, ht2, ht3], HB.bel⟩
      | true =>
        go_wp2_with fail
        refine (within_c (j.xs.length : Int) 1 1048576 _).mono ?_
        rintro e w4 ⟨rfl, hb⟩
        replace HB := HB.below hb
        clear hb e0 e1 e2 e3 e4 e5 e6 e7
        obtain ⟨e0, e1, e2, e3, e4, e5, e6, e7⟩ := HB.b1.cells8
        cases ht4 : inB (j.xs.length : Int) 1 1048576 with
        | false =>
          go_wp2_with fail
          go_ret
          exact ⟨by simp [ht1, ht2, ht3, ht4], HB.bel⟩
        | true =>
          have hx : 1 ≤ (j.xs.length : Int) ∧ (j.xs.length : Int) ≤ 1048576 := by simpa [inB] using ht4
          cases ht5 : decide (j.ps.length ≤ 1048576) with
          | false =>
            have g1 : decide (1048576 < j.ps.length) = true := by simpa using ht5
            have g2 : decide (1048576 < (j.ps.length : Int)) = true := by simp at ht5 ⊢; omega
            have g3 : decide ((j.ps.length : Int) > 1048576) = true := g2
            go_wp2_with fail
            go_ret
            exact ⟨by simp [ht1, ht2, ht3, ht4, ht5], HB.bel⟩
          | true =>
            have g1 : decide (1048576 < j.ps.length) = false := by simpa using ht5
            have g2 : decide (1048576 < (j.ps.length : Int)) = false := by simp at ht5 ⊢; omega
            have g3 : decide ((j.ps.length : Int) > 1048576) = false := g2
            have HPs := Lib.hid (of_decide_eq_true ht5)
            have HXs := Lib.hid hx
            clear hx
            go_wp2_with fail
            refine (contains_inst w.heap.size j.insB j.A6 j.c6 j.xs (by have := HXs.out; omega) _ (HJ.out.below rfl HB.bel).h6 (fun W x hb => right1_calls j x _ W (HJ.out.below rfl (HB.below hb).bel) HCS.out (HB.b1.below hb))).mono ?_
            rintro e w6 ⟨rfl, hb⟩
            replace HB := HB.below hb
            clear hb e0 e1 e2 e3 e4 e5 e6 e7
            obtain ⟨e0, e1, e2, e3, e4, e5, e6, e7⟩ := HB.b1.cells8
            cases ht6 : j.xs.all j.insB with
            | false =>
              go_wp2_with fail
              go_ret
              exact ⟨by simp [ht1, ht2, ht3, ht4, ht5, ht6], HB.bel⟩
            | true =>
              go_wp2_with fail
              refine (contains_pad w.heap.size j.padB j.A7 j.c7 j.ps (by have := HPs.out; omega) _ (HJ.out.below rfl HB.bel).h7 (fun W x hb => right2_calls j x _ W (HJ.out.below rfl (HB.below hb).bel) (HB.b1.below hb))).mono ?_
              rintro e w7 ⟨rfl, hb⟩
              replace HB := HB.below hb
              clear hb e0 e1 e2 e3 e4 e5 e6 e7
              obtain ⟨e0, e1, e2, e3, e4, e5, e6, e7⟩ := HB.b1.cells8
              cases ht7 : j.ps.all j.padB with
              | false =>
                go_wp2_with fail
                go_ret
                exact ⟨by simp [ht1, ht2, ht3, ht4, ht5, ht6, ht7], HB.bel⟩
              | true =>
                obtain ⟨m, hm⟩ : ∃ m : Nat, j.xs.length = m + 1 := ⟨j.xs.length - 1, by have := HXs.out; omega⟩
                have hm2 : (j.xs.length : Int) - 1 = (m : Int) := by omega
                obtain ⟨ad, ea, hx0, _⟩ := at_T42 (HJ.out.below rfl HB.bel).h6 (m : Int) (by omega) (by omega)
                simp only [Int.toNat_natCast] at hx0
                have wl : IntKind.i64.wrap ((j.xs.length : Int) - 1) = (m : Int) := by rw [i64_w]; unfold wrap64; have := HXs.out; omega
                have p1 : (0 ≤ (m : Int)) = True := eq_true (by omega)
                have p2 : ((m : Int) < (j.xs.length : Int)) = True := eq_true (by omega)
                have p3 : (m < j.xs.length) = True := eq_true (by omega)
                rw [ea] at e6
                have HA6 := Lib.hid ea
                clear ea
                obtain ⟨op, hop⟩ : ∃ op, op = (rd_T42 j.xs (m : Int)).f0 := ⟨_, rfl⟩
                rw [← hop] at hx0
                have hlast : Hid ((rd_T42 j.xs ((j.xs.length : Int) - 1)).f0 = op) := Lib.hid (by rw [hm2, hop])
                clear hop hm hm2
                by_cases k1 : op = 16
                · subst k1
                  go_wp2_with fail
                  go_ret
                  exact ⟨by simp [ht1, ht2, ht3, ht4, ht5, ht6, ht7, lastB, hlast.out], HB.bel⟩
                · have n1 : (op == 16) = false := by simpa using k1
                  by_cases k2 : op = 22
                  · subst k2
                    go_wp2_with fail
                    go_ret
                    exact ⟨by simp [ht1, ht2, ht3, ht4, ht5, ht6, ht7, lastB, hlast.out], HB.bel⟩
                  · have n2 : (op == 22) = false := by simpa using k2
                    by_cases k3 : op = 23
                    · subst k3
                      go_wp2_with fail
                      go_ret
                      exact ⟨by simp [ht1, ht2, ht3, ht4, ht5, ht6, ht7, lastB, hlast.out], HB.bel⟩
                    · have n3 : (op == 23) = false := by simpa using k3
                      go_wp2_with fail
                      go_ret
                      exact ⟨by simp [ht1, ht2, ht3, ht4, ht5, ht6, ht7, lastB, hlast.out, n1, n2, n3], HB.bel⟩
end Go.Proofs.Ytoiakaagbgfocaa.PC
