/- Package parse: Parse. -/
import Derived.Test.YtmgkejobolgkmaaGreatDoorPaProg
import Derived.Test.YtmgkejobolgkmaaGreatDoorLexLex
namespace Go.Proofs.YtmgkejobolgkmaaGreatDoor.PL
open Go Go.RowKit Go.Proofs.YtmgkejobolgkmaaGreatDoorW.PrintWords Go.Proofs.YtmgkejobolgkmaaGreatDoorW.PrintLast Go.Proofs.YtmgkejobolgkmaaGreatDoorW.PrintMore
set_option linter.unusedVariables false
set_option linter.unusedSimpArgs false

abbrev SDiag := S32
/-- what a text is, as a program, by its tokens -/
def parseP (l : List Tok) (d1 d2 n : Int) : SProg × List SDiag :=
  if d2 ≠ 0 then (prog0, [⟨d1, d2⟩]) else ((parseT l n).1, (parseT l n).2.map fun x => ⟨x.1, x.2⟩)
theorem one_diag {W : World} {g : Nat} {t : TypeId} {a b : Int} (h : Blk W g #[.int .i64 a, .int .i64 b] t) : Kd.C k32 W (some ⟨g, 0, none⟩) 1 [⟨a, b⟩] := by
  refine ⟨rfl, by simp, fun _ => ⟨⟨g, 0, none⟩, rfl, fun j e hj => ?_⟩⟩
  match j, hj with
  | 0, hj =>
    injection hj with hj
    subst hj
    refine ⟨[.int .i64 a, .int .i64 b], rfl, k32_mk W ⟨a, b⟩, fun i u hu => ?_⟩
    match i, hu with
    | 0, hu => exact (h.cell 0).trans hu
    | 1, hu => exact (h.cell 1).trans hu
  | j + 1, hj => simp at hj
/-- what Parse hands back, in memory -/
def PAns (w w' : World) (vp vd : Value) (r : SProg × List SDiag) : Prop :=
  ∃ A0 n0 c0 A1 n1 c1 A2 n2 c2 A c, vp = .agg #[.slice A0 n0 c0, .slice A1 n1 c1, .slice A2 n2 c2] ∧ vd = .slice A r.2.length c ∧
    RW k77 77 w' w.heap.size (.slice A0 n0 c0) r.1.f0 ∧ RW k80 80 w' w.heap.size (.slice A1 n1 c1) r.1.f1 ∧ RW k63 63 w' w.heap.size (.slice A2 n2 c2) r.1.f2 ∧
    Kd.C k32 w' A r.2.length r.2 ∧ r.2.length ≤ c ∧ Below w.heap.size w w'
theorem below_grown {A C D : World} {R : Nat} (h : Below A.heap.size A C) (k : C.grownBy D (some R)) (hR : A.heap.size ≤ R) : Below A.heap.size A D :=
  ⟨k.os.trans h.os, k.tape.trans h.tape, k.output.trans h.output, Nat.le_trans h.size k.size, fun q hq => (k.block q (Nat.lt_of_lt_of_le hq h.size) (fun e => by cases e; omega)).trans (h.block q hq)⟩
theorem sets3_size (W : World) (R : Nat) (a b c : Value) : (((W.setCell ⟨R, 0, none⟩ a).setCell ⟨R, 1, none⟩ b).setCell ⟨R, 2, none⟩ c).heap.size = W.heap.size := by simp
theorem pans_err {w U : World} {g : Nat} {a b : Int} (hd : Blk U g #[.int .i64 a, .int .i64 b] 32) (hb : Below w.heap.size w U) : PAns w U (.agg #[.slice none 0 0, .slice none 0 0, .slice none 0 0]) (.slice (some ⟨g, 0, none⟩) 1 1) (prog0, [⟨a, b⟩]) :=
  ⟨none, 0, 0, none, 0, 0, none, 0, 0, some ⟨g, 0, none⟩, 1, rfl, rfl, RW.nil _ _ _ _, RW.nil _ _ _ _, RW.nil _ _ _ _, one_diag hd, Nat.le_refl _, hb⟩
set_option maxHeartbeats 16000000 in
set_option maxRecDepth 100000 in
theorem parse_calls (text : ByteArray) (l : List Tok) (d1 d2 : Int) (w : World) (hG : Globs w) (h : lex_Lex.f text = some (l, d1, d2)) (hok : Rd.Ok ⟨l, text.size, -1, -1⟩) :
    Calls Tryz.prog 8 #[.string text] w fun e w' => ∃ vp vd, e = .returned (.tuple #[vp, vd]) ∧ PAns w w' vp vd (parseP l d1 d2 text.size) := by
  have HL := Lib.hid (fun V (hV : Globs V) => lex_Lex.calls text l d1 d2 V hV h)
  have HOk := Lib.hid hok
  have hG1 := Lib.hid (hG.below (below_alloc (Below.refl w.heap.size w) (.cells #[.slice none 0 0, .slice none 0 0, .slice none 0 0] 27)))
  obtain ⟨fin, hfin⟩ : ∃ fin, fin = parseP l d1 d2 text.size := ⟨_, rfl⟩
  rw [← hfin]
  unfold parseP at hfin
  clear hG h hok
  go_enter Tryz.func8, Tryz.ntmps8
  go_wp2_with fail
  refine (HL.out _ hG1.out).mono ?_
  rintro e W1 ⟨v0, rfl, hrow, hb1⟩
  obtain ⟨A, c, rfl, hlc, hC⟩ := Kd.R_reads hrow
  have HC := Lib.hid hC
  have HLc := Lib.hid hlc
  have HR1 := Lib.hid ((Blk.new w #[.slice none 0 0, .slice none 0 0, .slice none 0 0] 27).below hb1)
  have HB1 := Lib.hid (below_step (below_alloc (Below.refl w.heap.size w) (.cells #[.slice none 0 0, .slice none 0 0, .slice none 0 0] 27)) hb1)
  clear hrow hb1 hC hlc HL hG1
  have HRD : Hid (w.heap.size < W1.heap.size) := Lib.hid HR1.out.lt
  have hRD : (W1.heap.size = w.heap.size) = False := eq_false (by have := HRD.out; omega)
  have hDR : (w.heap.size = W1.heap.size) = False := eq_false (by have := HRD.out; omega)
  by_cases hd : d2 = 0
  · subst hd
    rw [if_neg (by decide)] at hfin
    have HF0 := Lib.hid hfin
    clear hfin
    go_wp2_with fail
    refine at_world (fun V => Blk V w.heap.size #[.slice none 0 0, .slice none 0 0, .slice none 0 0] 27 ∧ Below w.heap.size w V ∧ RdIn W1 V (W1.heap.size + 1) ⟨l, text.size, -1, -1⟩) ⟨(HR1.out.alloc _).alloc _, below_alloc (below_alloc HB1.out _) _, A, c, Blk.new' (by simp) _ _, HC.out, HLc.out, below_alloc (below_alloc (Below.refl _ _) _) _, by omega, HOk.out.len⟩ ?_
    rintro V0 ⟨hr0, hb0, hrd⟩
    obtain ⟨B, hB⟩ : ∃ B, B = W1.heap.size + 1 := ⟨_, rfl⟩
    rw [← hB] at hrd ⊢
    have HBw : Hid (w.heap.size < B) := Lib.hid (by have := HRD.out; omega)
    clear hB
    have HR0 := Lib.hid hr0
    have HB0 := Lib.hid hb0
    have HRd := Lib.hid hrd
    clear hr0 hb0 hrd HR1 HB1 HC HLc
    have HPr := Lib.hid (program_calls W1 V0 B ⟨l, text.size, -1, -1⟩ HRd.out HOk.out)
    have hpt : parseT l text.size = (if (Rd.program rdF ⟨l, text.size, -1, -1⟩ prog0).2.bad ≠ -1 then (prog0, [((Rd.program rdF ⟨l, text.size, -1, -1⟩ prog0).2.bad, 2)]) else if (Rd.program rdF ⟨l, text.size, -1, -1⟩ prog0).2.much ≠ -1 then (prog0, [((Rd.program rdF ⟨l, text.size, -1, -1⟩ prog0).2.much, 3)]) else ((Rd.program rdF ⟨l, text.size, -1, -1⟩ prog0).1, [])) := rfl
    have hf := HF0.out
    rw [hpt] at hf
    clear hpt HF0
    generalize Rd.program rdF ⟨l, text.size, -1, -1⟩ prog0 = q at *
    obtain ⟨p, s1⟩ := q
    simp only at HPr hf
    have HF0 := Lib.hid hf
    clear hf
    refine HPr.out.mono ?_
    rintro e V1 ⟨A0, n0, c0, A1, n1, c1, A2, n2, c2, rfl, h0, h1, h2, hps⟩
    clear HPr
    have HBR : Hid (w.heap.size ≠ B) := Lib.hid (by have := HBw.out; omega)
    have hRB : (w.heap.size = B) = False := eq_false (by have := HBw.out; omega)
    have hBR : (B = w.heap.size) = False := eq_false (by have := HBw.out; omega)
    have hVw : Below w.heap.size w V1 := below_grown HB0.out hps.g (Nat.le_of_lt HBw.out)
    have H0 := Lib.hid (Kd.R_lower h0 HB0.out.size)
    have H1 := Lib.hid (Kd.R_lower h1 HB0.out.size)
    have H2 := Lib.hid (Kd.R_lower h2 HB0.out.size)
    have HRx := Lib.hid (HR0.out.ps hps.g HBR.out)
    obtain ⟨Ax, cx, hbx, -⟩ := hps.r
    have HBb := Lib.hid hbx
    have HBe := Lib.hid hVw
    have HRV1 : Hid (w.heap.size < V1.heap.size) := Lib.hid HRx.out.lt
    have hRT : (w.heap.size = V1.heap.size) = False := eq_false (by have := HRV1.out; omega)
    have hTR : (V1.heap.size = w.heap.size) = False := eq_false (by have := HRV1.out; omega)
    clear h0 h1 h2 hps hVw hbx HR0 HB0 HRd HOk
    have HBx := Lib.hid (HBb.out.alloc (.cells #[.slice A0 n0 c0, .slice A1 n1 c1, .slice A2 n2 c2] 27))
    have HTx := Lib.hid (Blk.new V1 #[.slice A0 n0 c0, .slice A1 n1 c1, .slice A2 n2 c2] 27)
    have HRy := Lib.hid (HRx.out.alloc (.cells #[.slice A0 n0 c0, .slice A1 n1 c1, .slice A2 n2 c2] 27))
    have HBy := Lib.hid (below_alloc HBe.out (.cells #[.slice A0 n0 c0, .slice A1 n1 c1, .slice A2 n2 c2] 27))
    obtain ⟨⟨b0, b1, b2, b3⟩, -⟩ := HBx.out.cells4
    by_cases hbad : s1.bad = -1
    · have q1 : (s1.bad != -1) = false := by rw [hbad]; rfl
      have q2 : (s1.bad == -1) = true := by rw [hbad]; rfl
      have q3 : (s1.bad = -1) = True := eq_true hbad
      have hf := HF0.out
      rw [if_neg (by simp [hbad])] at hf
      clear HF0 hbad
      by_cases hmuch : s1.much = -1
      · have m1 : (s1.much != -1) = false := by rw [hmuch]; rfl
        have m2 : (s1.much == -1) = true := by rw [hmuch]; rfl
        have m3 : (s1.much = -1) = True := eq_true hmuch
        rw [if_neg (by simp [hmuch])] at hf
        have HF := Lib.hid hf
        clear hf hmuch
        obtain ⟨⟨t0, t1, t2⟩, -⟩ := HTx.out.cells3
        obtain ⟨⟨r0, r1, r2⟩, e0, e1, e2⟩ := HRy.out.cells3
        go_wp2_with fail
        refine post_at (fun U => Blk U w.heap.size #[.slice A0 n0 c0, .slice A1 n1 c1, .slice A2 n2 c2] 27 ∧ RW k77 77 U w.heap.size (.slice A0 n0 c0) p.f0 ∧ RW k80 80 U w.heap.size (.slice A1 n1 c1) p.f1 ∧ RW k63 63 U w.heap.size (.slice A2 n2 c2) p.f2 ∧ Below w.heap.size w U) ⟨?_, ?_, ?_, ?_, ?_⟩ ?_
        · exact HRy.out.all3 _ _ _
        · exact RW.over (RW.bel H0.out (below_alloc (Below.refl _ _) _)) HRy.out Ep0 (sets3 _ _ _ _ _)
        · exact RW.over (RW.bel H1.out (below_alloc (Below.refl _ _) _)) HRy.out Ep1 (sets3 _ _ _ _ _)
        · exact RW.over (RW.bel H2.out (below_alloc (Below.refl _ _) _)) HRy.out Ep2 (sets3 _ _ _ _ _)
        · exact below_grown HBy.out (sets3 _ _ _ _ _) (Nat.le_refl _)
        · rintro U ⟨hbx, w0', w1', w2', hbe⟩
          obtain ⟨⟨z0, z1, z2⟩, -⟩ := hbx.cells3
          exact bodyPost_ret (v := .tuple #[.agg #[.slice A0 n0 c0, .slice A1 n1 c1, .slice A2 n2 c2], .slice none 0 0]) (by simp [results, Tryz.results8, go_sem, z0, z1, z2]) rfl ⟨_, _, rfl, by rw [HF.out]; exact ⟨A0, n0, c0, A1, n1, c1, A2, n2, c2, none, 0, rfl, rfl, w0', w1', w2', ⟨rfl, Nat.zero_le _, fun h => absurd h (by simp)⟩, Nat.le_refl _, hbe⟩⟩
      · have m1 : (s1.much != -1) = true := bne_iff_ne.2 hmuch
        have m2 : (s1.much == -1) = false := by rw [beq_eq_false_iff_ne]; exact hmuch
        have m3 : (s1.much = -1) = False := eq_false hmuch
        rw [if_pos hmuch] at hf
        have HF : Hid (fin = (prog0, [⟨s1.much, 3⟩])) := Lib.hid hf
        clear hf hmuch
        go_upto_region 9 with fail
        obtain ⟨Vz, hVz⟩ : ∃ Vz, Vz = V1.alloc (.cells #[.slice A0 n0 c0, .slice A1 n1 c1, .slice A2 n2 c2] 27) := ⟨_, rfl⟩
        rw [← hVz] at HBx HRy HBy b0 b1 b2 b3 ⊢
        have hr := HRy.out
        have hb := HBy.out
        clear hVz HTx b0 b1 b2 b3
        refine code_at (fun V => V = Vz) rfl ?_
        rintro V rfl
        have HBV := Lib.hid hb
        have HRV := Lib.hid hr
        have HRl := Lib.hid hr.lt
        obtain ⟨⟨r0, r1, r2⟩, e0, e1, e2⟩ := hr.cells3
        have y0 := fun o => cell_al r0 o
        have y1 := fun o => cell_al r1 o
        have y2 := fun o => cell_al r2 o
        have u0 := fun o => (hr.alloc o).frozen 0
        have u1 := fun o => (hr.alloc o).frozen 1
        have u2 := fun o => (hr.alloc o).frozen 2
        obtain ⟨⟨b0, b1, b2, b3⟩, -⟩ := HBx.out.cells4
        have x0 := fun o => cell_al b3 o
        clear hr hb
        go_region_law (fail)
        all_goals
          go_wp2_with fail
          refine post_at (fun U => Blk U w.heap.size #[.slice none 0 0, .slice none 0 0, .slice none 0 0] 27 ∧ Blk U V.heap.size #[.int .i64 s1.much, .int .i64 3] 32 ∧ Below w.heap.size w U) ⟨?_, ?_, ?_⟩ ?_
          · first
              | exact ((HRV.out.alloc _).all3 _ _ _).drew
              | exact ((HRV.out.all3 _ _ _).alloc _).drew
          · first
              | exact ((Blk.new V _ _).grown (sets3 _ _ _ _ _) (fun e => by injection e with e; have := HRl.out; omega)).drew
              | exact (Blk.new' (sets3_size _ _ _ _ _) _ _).drew
          · first
              | exact (below_grown (below_alloc HBV.out _) (sets3 _ _ _ _ _) (Nat.le_refl _)).drew
              | exact (below_alloc (below_grown HBV.out (sets3 _ _ _ _ _) (Nat.le_refl _)) _).drew
          · rintro U ⟨hbx, hdx, hbe⟩
            obtain ⟨⟨z0, z1, z2⟩, -⟩ := hbx.cells3
            exact bodyPost_ret (v := .tuple #[.agg #[.slice none 0 0, .slice none 0 0, .slice none 0 0], .slice (some ⟨V.heap.size, 0, none⟩) 1 1]) (by simp [results, Tryz.results8, go_sem, z0, z1, z2]) rfl ⟨_, _, rfl, by rw [HF.out]; exact pans_err hdx hbe⟩
    · have q1 : (s1.bad != -1) = true := bne_iff_ne.2 hbad
      have q2 : (s1.bad == -1) = false := by rw [beq_eq_false_iff_ne]; exact hbad
      have q3 : (s1.bad = -1) = False := eq_false hbad
      have hf := HF0.out
      rw [if_pos hbad] at hf
      have HF : Hid (fin = (prog0, [⟨s1.bad, 2⟩])) := Lib.hid hf
      clear hf HF0 hbad
      go_upto_region 7 with fail
      obtain ⟨Vz, hVz⟩ : ∃ Vz, Vz = V1.alloc (.cells #[.slice A0 n0 c0, .slice A1 n1 c1, .slice A2 n2 c2] 27) := ⟨_, rfl⟩
      rw [← hVz] at HBx HRy HBy b0 b1 b2 b3 ⊢
      have hr := HRy.out
      have hb := HBy.out
      clear hVz HTx b0 b1 b2 b3
      refine code_at (fun V => V = Vz) rfl ?_
      rintro V rfl
      have HBV := Lib.hid hb
      have HRV := Lib.hid hr
      have HRl := Lib.hid hr.lt
      obtain ⟨⟨r0, r1, r2⟩, e0, e1, e2⟩ := hr.cells3
      have y0 := fun o => cell_al r0 o
      have y1 := fun o => cell_al r1 o
      have y2 := fun o => cell_al r2 o
      have u0 := fun o => (hr.alloc o).frozen 0
      have u1 := fun o => (hr.alloc o).frozen 1
      have u2 := fun o => (hr.alloc o).frozen 2
      obtain ⟨⟨b0, b1, b2, b3⟩, -⟩ := HBx.out.cells4
      have x0 := fun o => cell_al b2 o
      clear hr hb
      go_region_law (fail)
      all_goals
        go_wp2_with fail
        refine post_at (fun U => Blk U w.heap.size #[.slice none 0 0, .slice none 0 0, .slice none 0 0] 27 ∧ Blk U V.heap.size #[.int .i64 s1.bad, .int .i64 2] 32 ∧ Below w.heap.size w U) ⟨?_, ?_, ?_⟩ ?_
        · first
            | exact ((HRV.out.alloc _).all3 _ _ _).drew
            | exact ((HRV.out.all3 _ _ _).alloc _).drew
        · first
            | exact ((Blk.new V _ _).grown (sets3 _ _ _ _ _) (fun e => by injection e with e; have := HRl.out; omega)).drew
            | exact (Blk.new' (sets3_size _ _ _ _ _) _ _).drew
        · first
            | exact (below_grown (below_alloc HBV.out _) (sets3 _ _ _ _ _) (Nat.le_refl _)).drew
            | exact (below_alloc (below_grown HBV.out (sets3 _ _ _ _ _) (Nat.le_refl _)) _).drew
        · rintro U ⟨hbx, hdx, hbe⟩
          obtain ⟨⟨z0, z1, z2⟩, -⟩ := hbx.cells3
          exact bodyPost_ret (v := .tuple #[.agg #[.slice none 0 0, .slice none 0 0, .slice none 0 0], .slice (some ⟨V.heap.size, 0, none⟩) 1 1]) (by simp [results, Tryz.results8, go_sem, z0, z1, z2]) rfl ⟨_, _, rfl, by rw [HF.out]; exact pans_err hdx hbe⟩
  · have q1 : (d2 != 0) = true := bne_iff_ne.2 hd
    have q2 : (d2 == 0) = false := by rw [beq_eq_false_iff_ne]; exact hd
    rw [if_pos hd] at hfin
    have HF := Lib.hid hfin
    clear hfin hd
    go_upto_region 3 with fail
    refine code_at (fun V => Blk V W1.heap.size #[.int .i64 d1, .int .i64 d2] 32 ∧ Blk V w.heap.size #[.slice none 0 0, .slice none 0 0, .slice none 0 0] 27 ∧ Below w.heap.size w V) ⟨Blk.new _ _ _, HR1.out.alloc _, below_alloc HB1.out _⟩ ?_
    rintro V ⟨hd, hr, hb⟩
    obtain ⟨⟨x0, x1⟩, -⟩ := hd.cells2
    have HBV := Lib.hid hb
    have HRV := Lib.hid hr
    have HRl := Lib.hid hr.lt
    obtain ⟨⟨r0, r1, r2⟩, e0, e1, e2⟩ := hr.cells3
    have y0 := fun o => cell_al r0 o
    have y1 := fun o => cell_al r1 o
    have y2 := fun o => cell_al r2 o
    have u0 := fun o => (hr.alloc o).frozen 0
    have u1 := fun o => (hr.alloc o).frozen 1
    have u2 := fun o => (hr.alloc o).frozen 2
    clear hd hr hb HR1 HB1 HC HLc
    go_region_law (fail)
    all_goals
      go_wp2_with fail
      refine post_at (fun U => Blk U w.heap.size #[.slice none 0 0, .slice none 0 0, .slice none 0 0] 27 ∧ Blk U V.heap.size #[.int .i64 d1, .int .i64 d2] 32 ∧ Below w.heap.size w U) ⟨?_, ?_, ?_⟩ ?_
      · first
          | exact ((HRV.out.alloc _).all3 _ _ _).drew
          | exact ((HRV.out.all3 _ _ _).alloc _).drew
      · first
          | exact ((Blk.new V _ _).grown (sets3 _ _ _ _ _) (fun e => by injection e with e; have := HRl.out; omega)).drew
          | exact (Blk.new' (sets3_size _ _ _ _ _) _ _).drew
      · first
          | exact (below_grown (below_alloc HBV.out _) (sets3 _ _ _ _ _) (Nat.le_refl _)).drew
          | exact (below_alloc (below_grown HBV.out (sets3 _ _ _ _ _) (Nat.le_refl _)) _).drew
      · rintro U ⟨hbx, hdx, hbe⟩
        obtain ⟨⟨z0, z1, z2⟩, -⟩ := hbx.cells3
        exact bodyPost_ret (v := .tuple #[.agg #[.slice none 0 0, .slice none 0 0, .slice none 0 0], .slice (some ⟨V.heap.size, 0, none⟩) 1 1]) (by simp [results, Tryz.results8, go_sem, z0, z1, z2]) rfl ⟨_, _, rfl, by rw [HF.out]; exact pans_err hdx hbe⟩
end Go.Proofs.YtmgkejobolgkmaaGreatDoor.PL
