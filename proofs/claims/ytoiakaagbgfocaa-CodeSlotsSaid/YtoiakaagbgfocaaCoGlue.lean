/- Package code: a glue: its contract. -/
import Derived.Test.YtoiakaagbgfocaaCoIdxP
namespace Go.Proofs.Ytoiakaagbgfocaa.PC
open Go.RowKit Go.Proofs.YtoiakaagbgfocaaW.PrintWords Go.Proofs.YtoiakaagbgfocaaW.PrintLast Go.Proofs.YtoiakaagbgfocaaW.PrintMore
set_option linter.unusedVariables false
set_option linter.unusedSimpArgs false

set_option maxHeartbeats 4000000 in
set_option maxRecDepth 100000 in
theorem glue1_calls (j : Im) (g : Gl) (k : Int) (x : S73) (B1 B2 B3 : Nat) (w : World) (hj : j.In w) (hg : g.In w) (hl : j.g.length ≤ 1000000) (hB1 : Blk w B1 j.cells 25) (hB2 : Blk w B2 #[.int .i64 k] 3) (hB3 : Blk w B3 g.cells 48) :
    Calls Try.prog 36 #[.agg #[.int .i64 x.f0, .int .i64 x.f1], .pointer (some ⟨B1, 0, none⟩), .pointer (some ⟨B2, 0, none⟩), .pointer (some ⟨B3, 0, none⟩)] w fun e w' => e = .returned (.bool (!partB j.g k g.kd g.sl x)) ∧ Below w.heap.size w w' := by
  have HR := Lib.hid (fun W (hj : j.In W) (hg : g.In W) => part_calls j g k x W hj hg hl)
  have HJ := Lib.hid hj
  have HG := Lib.hid hg
  have e0 := fun o => ((hB1.alloc o).cells3).1.1
  have e1 := fun o => ((hB1.alloc o).cells3).1.2.1
  have e2 := fun o => ((hB1.alloc o).cells3).1.2.2
  have e3 := fun o => ((hB2.alloc o).cells1).1
  have e4 := fun o => ((hB3.alloc o).cells4).1.1
  have e5 := fun o => ((hB3.alloc o).cells4).1.2.1
  have e6 := fun o => ((hB3.alloc o).cells4).1.2.2.1
  have e7 := fun o => ((hB3.alloc o).cells4).1.2.2.2
  clear hj hg hB1 hB2 hB3
  generalize partB j.g k g.kd g.sl x = b at *
  go_enter Try.func36, Try.ntmps36
  go_wp2_with fail
  have hb0 := below_alloc (Below.refl w.heap.size w) (.cells #[.int .i64 x.f0, .int .i64 x.f1] 73)
  refine (HR.out _ (HJ.out.below rfl hb0) (HG.out.below rfl hb0)).mono ?_
  rintro e w1 ⟨rfl, hb1⟩
  have HB := Aside0.mk (below_step hb0 hb1)
  clear hb0 hb1
  go_wp2_with fail
  go_ret
  exact ⟨rfl, HB.out⟩
/-- a glue's own shape -/
def shapedB (kd sl hk : Int) (n : Nat) : Bool :=
  if kd = 0 then (hk == -1) && decide (n = 0) else if kd = 1 then (hk == -1) && (decide (n = 1) && (sl == 1)) else if kd = 2 then true else if kd = 3 then (hk == -1) && decide (0 < n) else false
/-- is the glue at an index right -/
def glueB (gs : List S48) (k : Int) : Bool :=
  inB (rd_T48 gs k).f1 1 64 && (inB (rd_T48 gs k).f2 (-1) 15 && (decide ((rd_T48 gs k).f3.length ≤ 16) && (shapedB (rd_T48 gs k).f0 (rd_T48 gs k).f1 (rd_T48 gs k).f2 (rd_T48 gs k).f3.length && (rd_T48 gs k).f3.all fun x => partB gs k (rd_T48 gs k).f0 (rd_T48 gs k).f1 x)))
/-- the boxes of glue -/
structure In3g (j : Im) (k : Int) (g : Gl) (w W : World) : Prop where mk :: (b1 : Blk W w.heap.size j.cells 25) (b2 : Blk W (w.heap.size + 1) #[.int .i64 k] 3) (b3 : Blk W (w.heap.size + 1 + 1) g.cells 48) (bel : Below w.heap.size w W)
theorem In3g.below {j : Im} {k : Int} {g : Gl} {w W W' : World} (h : In3g j k g w W) (hb : Below W.heap.size W W') : In3g j k g w W' := ⟨h.b1.below hb, h.b2.below hb, h.b3.below hb, below_step h.bel hb⟩
theorem In3g.new (j : Im) (k : Int) (g : Gl) (w : World) : In3g j k g w (((w.alloc (.cells j.cells 25)).alloc (.cells #[.int .i64 k] 3)).alloc (.cells g.cells 48)) :=
  ⟨((Blk.new w j.cells 25).alloc _).alloc _, (Blk.new' (by simp) _ _).alloc _, Blk.new' (by simp) _ _, below_alloc (below_alloc (below_alloc (Below.refl _ _) _) _) _⟩
theorem cell_al {w : World} {a : Addr} {v : Value} (h : w.cell? a = some v) (o : Obj) : (w.alloc o).cell? a = some v :=
  (Below.cell (below_alloc (Below.refl w.heap.size w) o) (World.block_lt_of_cell? w _ h)).trans h
set_option maxHeartbeats 8000000 in
set_option maxRecDepth 100000 in
theorem glue_walk (j : Im) (g : Gl) (ad : Addr) (k : Nat) (ea : j.A0 = some ad) (hk : k < j.g.length) (w : World) (hj : j.In w) (hg : g.In w) (hl : j.g.length ≤ 1000000)
    (hx0 : w.cell? (ad.add (k * 4)) = some (.int .i64 g.kd)) (hx1 : w.cell? ⟨(ad.add (k * 4)).block, (ad.add (k * 4)).off + 1, none⟩ = some (.int .i64 g.sl)) (hx2 : w.cell? ⟨(ad.add (k * 4)).block, (ad.add (k * 4)).off + 2, none⟩ = some (.int .i64 g.hk)) (hx3 : w.cell? ⟨(ad.add (k * 4)).block, (ad.add (k * 4)).off + 3, none⟩ = some (.slice g.A g.ps.length g.c)) :
    Calls Try.prog 24 #[j.val, .int .i64 (k : Int)] w fun e w' => e = .returned (.bool (inB g.sl 1 64 && (inB g.hk (-1) 15 && (decide (g.ps.length ≤ 16) && (shapedB g.kd g.sl g.hk g.ps.length && g.ps.all fun x => partB j.g (k : Int) g.kd g.sl x))))) ∧ Below w.heap.size w w' := by
  have HJ := Lib.hid hj
  have HG := Lib.hid hg
  have HL := Lib.hid hl
  obtain ⟨A0, c0, gs, A1, c1, cs, m⟩ := j
  simp only at ea hk hl
  cases ea
  have y0 := fun o o' => cell_al (cell_al hx0 o) o'
  have y1 := fun o o' => cell_al (cell_al hx1 o) o'
  have y2 := fun o o' => cell_al (cell_al hx2 o) o'
  have y3 := fun o o' => cell_al (cell_al hx3 o) o'
  have p1 := eq_true hk
  have p2 : (0 ≤ (k : Int)) = True := eq_true (by omega)
  have p3 : ((k : Int) < (gs.length : Int)) = True := eq_true (by omega)
  clear hx0 hx1 hx2 hx3 hj hg hl hk
  go_enter Try.func24, Try.ntmps24
  go_wp2_with fail
  refine at_world (fun W => In3g ⟨some ad, c0, gs, A1, c1, cs, m⟩ (k : Int) g w W) (In3g.new ⟨some ad, c0, gs, A1, c1, cs, m⟩ (k : Int) g w) ?_
  rintro W0 HB
  clear y0 y1 y2 y3 p1 p2 p3
  refine (within_c g.sl 1 64 _).mono ?_
  rintro e w1 ⟨rfl, hb⟩
  replace HB := HB.below hb
  clear hb
  obtain ⟨⟨d0, d1, d2, d3⟩, _⟩ := HB.b3.cells4
  cases ht1 : inB g.sl 1 64 with
  | false =>
    go_wp2_with fail
    go_ret
    exact ⟨by simp [ht1], HB.bel⟩
  | true =>
    go_wp2_with fail
    refine (within_c g.hk (-1) 15 _).mono ?_
    rintro e w2 ⟨rfl, hb⟩
    replace HB := HB.below hb
    clear hb d0 d1 d2 d3
    obtain ⟨⟨d0, d1, d2, d3⟩, _⟩ := HB.b3.cells4
    cases ht2 : inB g.hk (-1) 15 with
    | false =>
      go_wp2_with fail
      go_ret
      exact ⟨by simp [ht1, ht2], HB.bel⟩
    | true =>
      cases ht3 : decide (g.ps.length ≤ 16) with
      | false =>
        have g1 : decide (16 < g.ps.length) = true := by simpa using ht3
        have g2 : decide (16 < (g.ps.length : Int)) = true := by simp at ht3 ⊢; omega
        have g3 : decide ((g.ps.length : Int) > 16) = true := g2
        go_wp2_with fail
        go_ret
        exact ⟨by simp [ht1, ht2, ht3], HB.bel⟩
      | true =>
        have hps : g.ps.length ≤ 16 := of_decide_eq_true ht3
        have g1 : decide (16 < g.ps.length) = false := by simpa using ht3
        have g2 : decide (16 < (g.ps.length : Int)) = false := by simp at ht3 ⊢; omega
        have g3 : decide ((g.ps.length : Int) > 16) = false := g2
        by_cases k0 : g.kd = 0
        · rw [k0] at d0
          by_cases n9 : g.hk = -1
          · have m9 : (g.hk == -1) = true := by simpa using n9
            by_cases n8 : g.ps.length = 0
            · have m8 : ((g.ps.length : Int) == 0) = true := by rw [beq_iff_eq]; omega
              have m7 : (g.ps.length == 0) = true := by rw [beq_iff_eq]; omega
              have hsh : Hid (shapedB g.kd g.sl g.hk g.ps.length = true) := Lib.hid (by simp [shapedB, m9, k0, n8])
              clear n8
              go_wp2_with fail
              refine (contains_part w.heap.size (w.heap.size + 1) (w.heap.size + 1 + 1) (fun x => partB gs (k : Int) g.kd g.sl x) g.A g.c g.ps (by omega) _ (HG.out.below rfl HB.bel).h (fun W x hb => glue1_calls ⟨some ad, c0, gs, A1, c1, cs, m⟩ g (k : Int) x _ _ _ W (HJ.out.below rfl (HB.below hb).bel) (HG.out.below rfl (HB.below hb).bel) HL.out (HB.b1.below hb) (HB.b2.below hb) (HB.b3.below hb))).mono ?_
              rintro e w4 ⟨rfl, hb⟩
              replace HB := HB.below hb
              clear hb d0 d1 d2 d3
              cases ht4 : g.ps.all (fun x => partB gs (k : Int) g.kd g.sl x) with
              | false =>
                go_wp2_with fail
                go_ret
                exact ⟨by simp [ht1, ht2, ht3, hsh.out, ht4], HB.bel⟩
              | true =>
                go_wp2_with fail
                go_ret
                exact ⟨by simp [ht1, ht2, ht3, hsh.out, ht4], HB.bel⟩
            · have m8 : ((g.ps.length : Int) == 0) = false := by rw [beq_eq_false_iff_ne]; omega
              have m7 : (g.ps.length == 0) = false := by rw [beq_eq_false_iff_ne]; omega
              go_wp2_with fail
              go_ret
              exact ⟨by simp [ht1, ht2, ht3, shapedB, m9, k0, n8], HB.bel⟩
          · have m9 : (g.hk == -1) = false := by simpa using n9
            go_wp2_with fail
            go_ret
            exact ⟨by simp [ht1, ht2, ht3, shapedB, m9, k0], HB.bel⟩
        · have q0 : (g.kd == 0) = false := by simpa using k0
          by_cases k1 : g.kd = 1
          · rw [k1] at d0
            by_cases n9 : g.hk = -1
            · have m9 : (g.hk == -1) = true := by simpa using n9
              by_cases n8 : g.ps.length = 1
              · have m8 : ((g.ps.length : Int) == 1) = true := by rw [beq_iff_eq]; omega
                have m7 : (g.ps.length == 1) = true := by rw [beq_iff_eq]; omega
                by_cases n6 : g.sl = 1
                · have m6 : (g.sl == 1) = true := by simpa using n6
                  have hsh : Hid (shapedB g.kd g.sl g.hk g.ps.length = true) := Lib.hid (by simp [shapedB, m9, k1, n8, m6])
                  clear n8
                  go_wp2_with fail
                  refine (contains_part w.heap.size (w.heap.size + 1) (w.heap.size + 1 + 1) (fun x => partB gs (k : Int) g.kd g.sl x) g.A g.c g.ps (by omega) _ (HG.out.below rfl HB.bel).h (fun W x hb => glue1_calls ⟨some ad, c0, gs, A1, c1, cs, m⟩ g (k : Int) x _ _ _ W (HJ.out.below rfl (HB.below hb).bel) (HG.out.below rfl (HB.below hb).bel) HL.out (HB.b1.below hb) (HB.b2.below hb) (HB.b3.below hb))).mono ?_
                  rintro e w4 ⟨rfl, hb⟩
                  replace HB := HB.below hb
                  clear hb d0 d1 d2 d3
                  cases ht4 : g.ps.all (fun x => partB gs (k : Int) g.kd g.sl x) with
                  | false =>
                    go_wp2_with fail
                    go_ret
                    exact ⟨by simp [ht1, ht2, ht3, hsh.out, ht4], HB.bel⟩
                  | true =>
                    go_wp2_with fail
                    go_ret
                    exact ⟨by simp [ht1, ht2, ht3, hsh.out, ht4], HB.bel⟩
                · have m6 : (g.sl == 1) = false := by simpa using n6
                  go_wp2_with fail
                  go_ret
                  exact ⟨by simp [ht1, ht2, ht3, shapedB, m9, k1, n8, m6], HB.bel⟩
              · have m8 : ((g.ps.length : Int) == 1) = false := by rw [beq_eq_false_iff_ne]; omega
                have m7 : (g.ps.length == 1) = false := by rw [beq_eq_false_iff_ne]; omega
                go_wp2_with fail
                go_ret
                exact ⟨by simp [ht1, ht2, ht3, shapedB, m9, k1, n8], HB.bel⟩
            · have m9 : (g.hk == -1) = false := by simpa using n9
              go_wp2_with fail
              go_ret
              exact ⟨by simp [ht1, ht2, ht3, shapedB, m9, k1], HB.bel⟩
          · have q1 : (g.kd == 1) = false := by simpa using k1
            by_cases k2 : g.kd = 2
            · rw [k2] at d0
              have hsh : Hid (shapedB g.kd g.sl g.hk g.ps.length = true) := Lib.hid (by simp [shapedB, k2])
              go_wp2_with fail
              refine (contains_part w.heap.size (w.heap.size + 1) (w.heap.size + 1 + 1) (fun x => partB gs (k : Int) g.kd g.sl x) g.A g.c g.ps (by omega) _ (HG.out.below rfl HB.bel).h (fun W x hb => glue1_calls ⟨some ad, c0, gs, A1, c1, cs, m⟩ g (k : Int) x _ _ _ W (HJ.out.below rfl (HB.below hb).bel) (HG.out.below rfl (HB.below hb).bel) HL.out (HB.b1.below hb) (HB.b2.below hb) (HB.b3.below hb))).mono ?_
              rintro e w4 ⟨rfl, hb⟩
              replace HB := HB.below hb
              clear hb d0 d1 d2 d3
              cases ht4 : g.ps.all (fun x => partB gs (k : Int) g.kd g.sl x) with
              | false =>
                go_wp2_with fail
                go_ret
                exact ⟨by simp [ht1, ht2, ht3, hsh.out, ht4], HB.bel⟩
              | true =>
                go_wp2_with fail
                go_ret
                exact ⟨by simp [ht1, ht2, ht3, hsh.out, ht4], HB.bel⟩
            · have q2 : (g.kd == 2) = false := by simpa using k2
              by_cases k3 : g.kd = 3
              · rw [k3] at d0
                by_cases n9 : g.hk = -1
                · have m9 : (g.hk == -1) = true := by simpa using n9
                  by_cases n8 : 0 < g.ps.length
                  · have m8 : decide (0 < (g.ps.length : Int)) = true := decide_eq_true (by omega)
                    have m7 : decide (0 < g.ps.length) = true := decide_eq_true n8
                    have m6 : decide ((g.ps.length : Int) > 0) = true := m8
                    have hsh : Hid (shapedB g.kd g.sl g.hk g.ps.length = true) := Lib.hid (by simp [shapedB, m9, k3, n8])
                    go_wp2_with fail
                    refine (contains_part w.heap.size (w.heap.size + 1) (w.heap.size + 1 + 1) (fun x => partB gs (k : Int) g.kd g.sl x) g.A g.c g.ps (by omega) _ (HG.out.below rfl HB.bel).h (fun W x hb => glue1_calls ⟨some ad, c0, gs, A1, c1, cs, m⟩ g (k : Int) x _ _ _ W (HJ.out.below rfl (HB.below hb).bel) (HG.out.below rfl (HB.below hb).bel) HL.out (HB.b1.below hb) (HB.b2.below hb) (HB.b3.below hb))).mono ?_
                    rintro e w4 ⟨rfl, hb⟩
                    replace HB := HB.below hb
                    clear hb d0 d1 d2 d3
                    cases ht4 : g.ps.all (fun x => partB gs (k : Int) g.kd g.sl x) with
                    | false =>
                      go_wp2_with fail
                      go_ret
                      exact ⟨by simp [ht1, ht2, ht3, hsh.out, ht4], HB.bel⟩
                    | true =>
                      go_wp2_with fail
                      go_ret
                      exact ⟨by simp [ht1, ht2, ht3, hsh.out, ht4], HB.bel⟩
                  · have m8 : decide (0 < (g.ps.length : Int)) = false := decide_eq_false (by omega)
                    have m7 : decide (0 < g.ps.length) = false := decide_eq_false n8
                    have m6 : decide ((g.ps.length : Int) > 0) = false := m8
                    go_wp2_with fail
                    go_ret
                    exact ⟨by simp [ht1, ht2, ht3, shapedB, m9, k3, m7], HB.bel⟩
                · have m9 : (g.hk == -1) = false := by simpa using n9
                  go_wp2_with fail
                  go_ret
                  exact ⟨by simp [ht1, ht2, ht3, shapedB, m9, k3], HB.bel⟩
              · have q3 : (g.kd == 3) = false := by simpa using k3
                go_wp2_with fail
                go_ret
                exact ⟨by simp [ht1, ht2, ht3, shapedB, k0, k1, k2, k3], HB.bel⟩
theorem glue_calls (j : Im) (k : Nat) (hk : k < j.g.length) (w : World) (hj : j.In w) (hl : j.g.length ≤ 1000000) : Calls Try.prog 24 #[j.val, .int .i64 (k : Int)] w fun e w' => e = .returned (.bool (glueB j.g (k : Int))) ∧ Below w.heap.size w w' := by
  obtain ⟨ad, A3, c3, ea, hx0, hx1, hx2, hx3, hb3, hc3⟩ := at_T48 hj.h0 (k : Int) (by omega) (by omega)
  simp only [Int.toNat_natCast] at hx0 hx1 hx2 hx3
  exact glue_walk j ⟨(rd_T48 j.g (k : Int)).f0, (rd_T48 j.g (k : Int)).f1, (rd_T48 j.g (k : Int)).f2, A3, c3, (rd_T48 j.g (k : Int)).f3⟩ ad k ea hk w hj ⟨hc3, hb3⟩ hl hx0 hx1 hx2 hx3
end Go.Proofs.Ytoiakaagbgfocaa.PC
