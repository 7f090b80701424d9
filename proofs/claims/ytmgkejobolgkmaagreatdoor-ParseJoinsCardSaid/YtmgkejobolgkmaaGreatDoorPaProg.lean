/- Package parse's reader: program. -/
import Derived.Test.YtmgkejobolgkmaaGreatDoorPaFunc
namespace Go.Proofs.YtmgkejobolgkmaaGreatDoor.PL
open Go Go.RowKit Go.Proofs.YtmgkejobolgkmaaGreatDoorW.PrintWords Go.Proofs.YtmgkejobolgkmaaGreatDoorW.PrintLast Go.Proofs.YtmgkejobolgkmaaGreatDoorW.PrintMore
set_option linter.unusedVariables false
set_option linter.unusedSimpArgs false

theorem infoStruct : (Tryz.prog.info? 77).map (fun i => (i.zero, i.size, i.bytes)) = some (some (.agg #[.int .i64 0, .string ⟨#[]⟩, .bool false, .bool false, .slice none 0 0]), 5, 56) := by kernel_rfl
theorem infoEnum : (Tryz.prog.info? 80).map (fun i => (i.zero, i.size, i.bytes)) = some (some (.agg #[.int .i64 0, .string ⟨#[]⟩, .slice none 0 0]), 3, 48) := by kernel_rfl
theorem infoFunc : (Tryz.prog.info? 63).map (fun i => (i.zero, i.size, i.bytes)) = some (some (.agg #[.int .i64 0, .string ⟨#[]⟩, .slice none 0 0, .slice none 0 0, .string ⟨#[]⟩, .slice none 0 0]), 6, 112) := by kernel_rfl
theorem Ep0 (q : Nat) (h : q ∈ 77 :: (k77).E) : q ≠ 27 := by
  revert q
  decide
theorem Ep01 (q : Nat) (h : q ∈ 77 :: (k77).E) : q ≠ 80 := by
  revert q
  decide
theorem Ep02 (q : Nat) (h : q ∈ 77 :: (k77).E) : q ≠ 63 := by
  revert q
  decide
theorem Ep1 (q : Nat) (h : q ∈ 80 :: (k80).E) : q ≠ 27 := by
  revert q
  decide
theorem Ep10 (q : Nat) (h : q ∈ 80 :: (k80).E) : q ≠ 77 := by
  revert q
  decide
theorem Ep12 (q : Nat) (h : q ∈ 80 :: (k80).E) : q ≠ 63 := by
  revert q
  decide
theorem Ep2 (q : Nat) (h : q ∈ 63 :: (k63).E) : q ≠ 27 := by
  revert q
  decide
theorem Ep20 (q : Nat) (h : q ∈ 63 :: (k63).E) : q ≠ 77 := by
  revert q
  decide
theorem Ep21 (q : Nat) (h : q ∈ 63 :: (k63).E) : q ≠ 80 := by
  revert q
  decide
theorem Blk.all3 {W : World} {R t : Nat} {v0 v1 v2 : Value} (h : Blk W R #[v0, v1, v2] t) (a0 a1 a2 : Value) : Blk (((W.setCell ⟨R, 0, none⟩ a0).setCell ⟨R, 1, none⟩ a1).setCell ⟨R, 2, none⟩ a2) R #[a0, a1, a2] t := by
  have h0 : Blk _ R #[a0, v1, v2] t := h.set 0 a0
  have h1 : Blk _ R #[a0, a1, v2] t := h0.set 1 a1
  exact h1.set 2 a2
theorem Rd.structure_prog {s : Rd} (h : s.Ok) {n : Nat} (hn : s.toks.length ≤ n) : s.structure.2.bad ≠ -1 ∨ s.structure.2.toks.length < n := (progC n).structure1 _ (Rd.must_prog h _ hn)
theorem Rd.enum_prog {s : Rd} (h : s.Ok) {n : Nat} (hn : s.toks.length ≤ n) : s.enum.2.bad ≠ -1 ∨ s.enum.2.toks.length < n := (progC n).enum1 _ (Rd.must_prog h _ hn)
theorem Rd.function_prog {s : Rd} (h : s.Ok) {n : Nat} (hn : s.toks.length ≤ n) : s.function.2.bad ≠ -1 ∨ s.function.2.toks.length < n := (progC n).function1 _ (Rd.must_prog h _ hn)
theorem Rd.program_out (kq : Nat) (s : Rd) (p : SProg) (hb : ¬ (s.bad = -1 ∧ s.toks ≠ [])) : Rd.program kq s p = (p, s) := by
  cases kq with
  | zero => rfl
  | succ k =>
    unfold Rd.program
    rw [if_neg hb]
/-- a program's box G and the result's, within the walk -/
def PX (w0 W U : World) (B G : Nat) (x : SProg) (s : Rd) : Prop := ∃ (A0 : Option Addr) (n0 c0 : Nat) (A1 : Option Addr) (n1 c1 : Nat) (A2 : Option Addr) (n2 c2 : Nat), Blk U G #[.slice A0 n0 c0, .slice A1 n1 c1, .slice A2 n2 c2] 27 ∧ RW k77 77 U W.heap.size (.slice A0 n0 c0) x.f0 ∧ RW k80 80 U W.heap.size (.slice A1 n1 c1) x.f1 ∧ RW k63 63 U W.heap.size (.slice A2 n2 c2) x.f2 ∧ PS w0 W U B s ∧ Blk U W.heap.size #[.slice none 0 0, .slice none 0 0, .slice none 0 0] 27
namespace PX
variable {w0 W U U' : World} {B G : Nat} {x : SProg} {s s' : Rd}
theorem p (h : PX w0 W U B G x s) : PS w0 W U B s := by
  obtain ⟨A0, n0, c0, A1, n1, c1, A2, n2, c2, hg, r0, r1, r2, hp, hr⟩ := h
  exact hp
theorem call (h : PX w0 W U B G x s) (hp' : PS w0 W U' B s') (hgr : U.grownBy U' (some B)) (hG : W.heap.size < G) : PX w0 W U' B G x s' := by
  obtain ⟨A0, n0, c0, A1, n1, c1, A2, n2, c2, hg, r0, r1, r2, hp, hr⟩ := h
  have hb := hp.b
  exact ⟨_, _, _, _, _, _, _, _, _, hg.ps hgr (by omega), RW.grown r0 hgr hb, RW.grown r1 hgr hb, RW.grown r2 hgr hb, hp', hr.ps hgr (by omega)⟩
end PX
set_option maxHeartbeats 32000000 in
set_option maxRecDepth 100000 in
theorem program_calls (w0 W : World) (B : Nat) (s : Rd) (h : RdIn w0 W B s) (hok : s.Ok) :
    Calls Tryz.prog 17 #[.pointer (some ⟨B, 0, none⟩)] W fun e W' => ∃ (A0 : Option Addr) (n0 c0 : Nat) (A1 : Option Addr) (n1 c1 : Nat) (A2 : Option Addr) (n2 c2 : Nat), e = .returned (.agg #[.slice A0 n0 c0, .slice A1 n1 c1, .slice A2 n2 c2]) ∧ RW k77 77 W' W.heap.size (.slice A0 n0 c0) (Rd.program rdF s prog0).1.f0 ∧ RW k80 80 W' W.heap.size (.slice A1 n1 c1) (Rd.program rdF s prog0).1.f1 ∧ RW k63 63 W' W.heap.size (.slice A2 n2 c2) (Rd.program rdF s prog0).1.f2 ∧ PS w0 W W' B (Rd.program rdF s prog0).2 := by
  have HP0 := Lib.hid (PS.start h)
  have HLt := Lib.hid h.lt
  have HOk := Lib.hid hok
  obtain ⟨fin, hfin⟩ : ∃ fin, fin = Rd.program rdF s prog0 := ⟨_, rfl⟩
  rw [← hfin]
  obtain ⟨F, hF⟩ : ∃ F, F = rdF := ⟨_, rfl⟩
  rw [← hF] at hfin
  have HF := Lib.hid hfin
  have HFF : Hid (F = 100001) := Lib.hid hF
  have HRB : Hid (W.heap.size ≠ B) := Lib.hid (fun e => by have := HLt.out; omega)
  have HLG : Hid (W.heap.size < W.heap.size + 1) := Lib.hid (Nat.lt_succ_self _)
  have HX := Lib.hid (show PX w0 W ((W.alloc (.cells #[.slice none 0 0, .slice none 0 0, .slice none 0 0] 27)).alloc (.cells #[.slice none 0 0, .slice none 0 0, .slice none 0 0] 27)) B (W.heap.size + 1) prog0 s from ⟨none, 0, 0, none, 0, 0, none, 0, 0, Blk.new' (by simp) _ _, RW.nil _ _ _ _, RW.nil _ _ _ _, RW.nil _ _ _ _, (HP0.out.alloc _).alloc _, (Blk.new W _ _).alloc _⟩)
  clear h hok hfin hF HP0
  have hGR : (W.heap.size + 1 = W.heap.size) = False := eq_false (by omega)
  have hRG : (W.heap.size = W.heap.size + 1) = False := eq_false (by omega)
  have HRG : Hid (W.heap.size ≠ W.heap.size + 1) := Lib.hid (by omega)
  have HGB : Hid (W.heap.size + 1 ≠ B) := Lib.hid (fun e => by have := HLt.out; omega)
  obtain ⟨G, hG⟩ : ∃ G, G = W.heap.size + 1 := ⟨_, rfl⟩
  rw [← hG] at HLG HX hGR hRG HRG HGB
  go_enter Tryz.func17, Tryz.ntmps17
  go_wp2_with fail
  rw [← hG]
  clear hG
  go_loopg [] F (fun kq w' => ∃ (s' : Rd) (p : SProg), Aside0 (p.f0.length + p.f1.length + p.f2.length + kq ≤ F ∧ s'.Ok) ∧ Aside0 (s'.bad ≠ -1 ∨ s'.toks.length < kq) ∧ Aside0 (Rd.program kq s' p = fin) ∧ Aside0 (PX w0 W w' B G p s'))
  case atStart => exact ⟨s, prog0, ⟨by simp [prog0], HOk.out⟩, ⟨.inr (by have := HOk.out.len; have := HFF.out; omega)⟩, ⟨HF.out.symm⟩, ⟨HX.out⟩⟩
  case round =>
    clear HX HF HOk
    obtain ⟨s', p, HI, HLn, HB, HX⟩ := hrel
    obtain ⟨A', c', ⟨d0, d1, d2, d3⟩, -⟩ := HX.out.p.cells
    clear d1 d3
    by_cases hgo : s'.bad = -1 ∧ s'.toks ≠ []
    · have hb1 : (s'.bad == -1) = true := by rw [hgo.1]; rfl
      have hpos : 0 < s'.toks.length := List.length_pos_iff.2 hgo.2
      have q1 : decide ((s'.toks.length : Int) > 0) = true := decide_eq_true (by omega)
      have q2 : decide ((0 : Int) < (s'.toks.length : Int)) = true := decide_eq_true (by omega)
      have q3 : decide (0 < s'.toks.length) = true := decide_eq_true hpos
      have q4 : ((0 : Int) < (s'.toks.length : Int)) = True := eq_true (by omega)
      have q5 : (0 < s'.toks.length) = True := eq_true hpos
      cases gk with
      | zero => exact absurd (HLn.out.resolve_left (fun hn => hn hgo.1)) (by omega)
      | succ kk =>
        have HL0 : Hid (s'.toks.length ≤ kk) := Lib.hid (by have := HLn.out.resolve_left (fun hn => hn hgo.1); omega)
        have hb := HB.out
        unfold Rd.program at hb
        rw [if_pos hgo] at hb
        simp only at hb
        clear HB hgo hpos
        have HSee := Lib.hid (see_at HX.out.p ⟨#[115, 116, 114, 117, 99, 116]⟩)
        cases hs0 : s'.sees [⟨#[115, 116, 114, 117, 99, 116]⟩] with
        | true =>
          rw [hs0] at HSee hb
          clear hs0
          have hf := hb
          rw [if_pos rfl] at hf
          have HB := Lib.hid hf
          clear hb hf
          go_wp2_with fail
          refine HSee.out.mono ?_
          rintro e Va0 ⟨rfl, hp, hg⟩
          have HX2 := Lib.hid (HX.out.call hp hg HLG.out)
          clear hp hg HSee HX; (try clear d0 d2)
          obtain ⟨A0, n0, c0, A1, n1, c1, A2, n2, c2, hgq, r0, r1, r2, -⟩ := HX2.out
          obtain ⟨hn0, -⟩ := Kd.R_reads' r0
          (try simp only at hn0)
          subst hn0
          obtain ⟨⟨g0, g1, g2⟩, f0, f1, f2⟩ := hgq.cells3
          clear hgq r0 r1 r2
          have HLi := Lib.hid (limit_at HX2.out.p p.f0.length 16)
          have HO1 := Lib.hid (okC.limit p.f0.length 16 HI.out.2)
          have HPr : Hid ((s'.limit p.f0.length 16).structure.2.bad ≠ -1 ∨ (s'.limit p.f0.length 16).structure.2.toks.length < kk) := Lib.hid (Rd.structure_prog HO1.out (by rw [Rd.limit_toks]; exact HL0.out))
          generalize s'.limit p.f0.length 16 = s2 at *
          go_wp2_with fail
          refine HLi.out.mono ?_
          rintro e Vb ⟨⟨vb, rfl⟩, hp, hg⟩
          clear g0 g1 g2 f0 f1 f2
          have HX3 := Lib.hid (HX2.out.call hp hg HLG.out)
          clear hp hg HLi HX2
          obtain ⟨A0, n0, c0, A1, n1, c1, A2, n2, c2, hgq, r0, r1, r2, hp, hr⟩ := HX3.out
          clear HX3
          have HG4 := Lib.hid hgq
          have HR4 := Lib.hid hr
          have HP4 := Lib.hid hp
          have H0 := Lib.hid r0
          have H1 := Lib.hid r1
          have H2 := Lib.hid r2
          have HVl := Lib.hid (Kd.R_lt r0)
          obtain ⟨⟨g0, g1, g2⟩, f0, f1, f2⟩ := hgq.cells3
          clear g1 g2 f0 f1 f2 hgq r0 r1 r2 hp hr
          have HPa := Lib.hid (structure_at (HP4.out.bel (below_drew (Below.refl _ _))) HO1.out)
          have HO2 := Lib.hid (okC.structure_ HO1.out)
          generalize s2.structure = q at *
          obtain ⟨y, s3⟩ := q
          simp only at HPa HO2 HPr HB
          go_wp2_with fail
          go_region_law (first
            | (go_simp; refine HPa.out.mono ?_; rintro e V5 ⟨A3, n3, c3, rfl, hm5, hp5, hg5⟩; have hg5' := grown_trans (grown_below (below_drew (Below.refl Vb.heap.size Vb))) hg5; have HP5 := Lib.hid hp5; have HM5 := Lib.hid hm5; have HR5 := Lib.hid (HR4.out.ps hg5' HRB.out); have HG5 := Lib.hid (HG4.out.ps hg5' HGB.out); have H05 := Lib.hid (RW.grown H0.out hg5' HLt.out); have H15 := Lib.hid (RW.grown H1.out hg5' HLt.out); have H25 := Lib.hid (RW.grown H2.out hg5' HLt.out); have HSz5 : Hid (W.heap.size ≤ V5.heap.size) := Lib.hid hp5.size; have HSw5 : Hid (W.heap.size ≤ Vb.heap.size) := Lib.hid HP4.out.size; have q1 := HG5.out.cells3.1.1; have q2 := fun o => cell_al HG5.out.cells3.1.1 o; clear hp5 hg5 hg5' hm5)
            | (refine row_append_step k77 W.heap.size Vb.heap.size rfl (.tmp 29) (.tmp 32) 23 77 _ 56 rfl Tryz.underlying23 infoStruct rfl (by decide) (by decide) _ p.f0 y _ rfl rfl HM5.out H05.out HVl.out HSw5.out HSz5.out (by have := HI.out.1; have := HFF.out; omega) ?_; intro v6 V6 hw6 hg6 hb6; obtain ⟨A6, n6, c6, rfl⟩ := RW.slice hw6; have HP6 := Lib.hid (HP5.out.app hg6 hb6); have HG6 := Lib.hid (HG5.out.grown hg6 (H05.out.far HG5.out (by decide))); have HR6 := Lib.hid (HR5.out.grown hg6 (H05.out.far HR5.out (by decide))); have H06 := Lib.hid hw6; have H16 := Lib.hid (RW.over' H15.out hg6 (fun k hk => by obtain ⟨cs, t, hb, ht⟩ := RW.typed H05.out k hk; exact ⟨cs, t, hb, fun q hq => by rw [ht]; exact Ep10 q hq⟩)); have H26 := Lib.hid (RW.over' H25.out hg6 (fun k hk => by obtain ⟨cs, t, hb, ht⟩ := RW.typed H05.out k hk; exact ⟨cs, t, hb, fun q hq => by rw [ht]; exact Ep20 q hq⟩)); clear hw6 hg6 hb6; obtain ⟨⟨e0, e1, e2⟩, d0, d1, d2⟩ := HG6.out.cells3))
          all_goals
            have HXs : Hid (PX w0 W (V6.setCell ⟨G, 0, none⟩ (.slice A6 n6 c6)) B G ⟨p.f0 ++ [y], p.f1, p.f2⟩ s3) := Lib.hid ⟨A6, n6, c6, A1, n1, c1, A2, n2, c2, HG6.out.set 0 _, RW.set H06.out HG6.out Ep0 0 _, RW.set H16.out HG6.out Ep1 0 _, RW.set H26.out HG6.out Ep2 0 _, HP6.out.set (p := ⟨G, 0, none⟩) (Nat.le_of_lt HLG.out) _, HR6.out.far (p := ⟨G, 0, none⟩) HRG.out _⟩
            clear HP6 HR6 H06 H16 H26 HP5 HR5 H05 H15 H25
            go_wp2_with fail
            go_roundg kk
            case measure => omega
            case rel => exact ⟨s3, ⟨p.f0 ++ [y], p.f1, p.f2⟩, ⟨by simp only [List.length_append, List.length_singleton]; have := HI.out.1; omega, HO2.out⟩, ⟨HPr.out⟩, ⟨HB.out⟩, ⟨HXs.out⟩⟩
        | false =>
          rw [hs0] at HSee hb
          rw [if_neg (by decide)] at hb
          clear hs0
          go_wp2_with fail
          refine HSee.out.mono ?_
          rintro e Vn0 ⟨rfl, hp, hg⟩
          have HX' := Lib.hid (HX.out.call hp hg HLG.out)
          clear hp hg HSee HX; (try clear d0 d2)
          have HX := HX'
          clear HX'
          have HSee := Lib.hid (see_at HX.out.p ⟨#[101, 110, 117, 109]⟩)
          cases hs1 : s'.sees [⟨#[101, 110, 117, 109]⟩] with
          | true =>
            rw [hs1] at HSee hb
            clear hs1
            have hf := hb
            rw [if_pos rfl] at hf
            have HB := Lib.hid hf
            clear hb hf
            go_wp2_with fail
            refine HSee.out.mono ?_
            rintro e Va1 ⟨rfl, hp, hg⟩
            have HX2 := Lib.hid (HX.out.call hp hg HLG.out)
            clear hp hg HSee HX; (try clear d0 d2)
            obtain ⟨A0, n0, c0, A1, n1, c1, A2, n2, c2, hgq, r0, r1, r2, -⟩ := HX2.out
            obtain ⟨hn1, -⟩ := Kd.R_reads' r1
            (try simp only at hn1)
            subst hn1
            obtain ⟨⟨g0, g1, g2⟩, f0, f1, f2⟩ := hgq.cells3
            clear hgq r0 r1 r2
            have HLi := Lib.hid (limit_at HX2.out.p p.f1.length 16)
            have HO1 := Lib.hid (okC.limit p.f1.length 16 HI.out.2)
            have HPr : Hid ((s'.limit p.f1.length 16).enum.2.bad ≠ -1 ∨ (s'.limit p.f1.length 16).enum.2.toks.length < kk) := Lib.hid (Rd.enum_prog HO1.out (by rw [Rd.limit_toks]; exact HL0.out))
            generalize s'.limit p.f1.length 16 = s2 at *
            go_wp2_with fail
            refine HLi.out.mono ?_
            rintro e Vb ⟨⟨vb, rfl⟩, hp, hg⟩
            clear g0 g1 g2 f0 f1 f2
            have HX3 := Lib.hid (HX2.out.call hp hg HLG.out)
            clear hp hg HLi HX2
            obtain ⟨A0, n0, c0, A1, n1, c1, A2, n2, c2, hgq, r0, r1, r2, hp, hr⟩ := HX3.out
            clear HX3
            have HG4 := Lib.hid hgq
            have HR4 := Lib.hid hr
            have HP4 := Lib.hid hp
            have H0 := Lib.hid r0
            have H1 := Lib.hid r1
            have H2 := Lib.hid r2
            have HVl := Lib.hid (Kd.R_lt r1)
            obtain ⟨⟨g0, g1, g2⟩, f0, f1, f2⟩ := hgq.cells3
            clear g0 g2 f0 f1 f2 hgq r0 r1 r2 hp hr
            have HPa := Lib.hid (enum_at (HP4.out.bel (below_drew (Below.refl _ _))) HO1.out)
            have HO2 := Lib.hid (okC.enum HO1.out)
            generalize s2.enum = q at *
            obtain ⟨y, s3⟩ := q
            simp only at HPa HO2 HPr HB
            go_wp2_with fail
            go_region_law (first
              | (go_simp; refine HPa.out.mono ?_; rintro e V5 ⟨A3, n3, c3, rfl, hm5, hp5, hg5⟩; have hg5' := grown_trans (grown_below (below_drew (Below.refl Vb.heap.size Vb))) hg5; have HP5 := Lib.hid hp5; have HM5 := Lib.hid hm5; have HR5 := Lib.hid (HR4.out.ps hg5' HRB.out); have HG5 := Lib.hid (HG4.out.ps hg5' HGB.out); have H05 := Lib.hid (RW.grown H0.out hg5' HLt.out); have H15 := Lib.hid (RW.grown H1.out hg5' HLt.out); have H25 := Lib.hid (RW.grown H2.out hg5' HLt.out); have HSz5 : Hid (W.heap.size ≤ V5.heap.size) := Lib.hid hp5.size; have HSw5 : Hid (W.heap.size ≤ Vb.heap.size) := Lib.hid HP4.out.size; have q1 := HG5.out.cells3.1.2.1; have q2 := fun o => cell_al HG5.out.cells3.1.2.1 o; clear hp5 hg5 hg5' hm5)
              | (refine row_append_step k80 W.heap.size Vb.heap.size rfl (.tmp 45) (.tmp 48) 24 80 _ 48 rfl Tryz.underlying24 infoEnum rfl (by decide) (by decide) _ p.f1 y _ rfl rfl HM5.out H15.out HVl.out HSw5.out HSz5.out (by have := HI.out.1; have := HFF.out; omega) ?_; intro v6 V6 hw6 hg6 hb6; obtain ⟨A6, n6, c6, rfl⟩ := RW.slice hw6; have HP6 := Lib.hid (HP5.out.app hg6 hb6); have HG6 := Lib.hid (HG5.out.grown hg6 (H15.out.far HG5.out (by decide))); have HR6 := Lib.hid (HR5.out.grown hg6 (H15.out.far HR5.out (by decide))); have H16 := Lib.hid hw6; have H06 := Lib.hid (RW.over' H05.out hg6 (fun k hk => by obtain ⟨cs, t, hb, ht⟩ := RW.typed H15.out k hk; exact ⟨cs, t, hb, fun q hq => by rw [ht]; exact Ep01 q hq⟩)); have H26 := Lib.hid (RW.over' H25.out hg6 (fun k hk => by obtain ⟨cs, t, hb, ht⟩ := RW.typed H15.out k hk; exact ⟨cs, t, hb, fun q hq => by rw [ht]; exact Ep21 q hq⟩)); clear hw6 hg6 hb6; obtain ⟨⟨e0, e1, e2⟩, d0, d1, d2⟩ := HG6.out.cells3))
            all_goals
              have HXs : Hid (PX w0 W (V6.setCell ⟨G, 1, none⟩ (.slice A6 n6 c6)) B G ⟨p.f0, p.f1 ++ [y], p.f2⟩ s3) := Lib.hid ⟨A0, n0, c0, A6, n6, c6, A2, n2, c2, HG6.out.set 1 _, RW.set H06.out HG6.out Ep0 1 _, RW.set H16.out HG6.out Ep1 1 _, RW.set H26.out HG6.out Ep2 1 _, HP6.out.set (p := ⟨G, 1, none⟩) (Nat.le_of_lt HLG.out) _, HR6.out.far (p := ⟨G, 1, none⟩) HRG.out _⟩
              clear HP6 HR6 H06 H16 H26 HP5 HR5 H05 H15 H25
              go_wp2_with fail
              go_roundg kk
              case measure => omega
              case rel => exact ⟨s3, ⟨p.f0, p.f1 ++ [y], p.f2⟩, ⟨by simp only [List.length_append, List.length_singleton]; have := HI.out.1; omega, HO2.out⟩, ⟨HPr.out⟩, ⟨HB.out⟩, ⟨HXs.out⟩⟩
          | false =>
            rw [hs1] at HSee hb
            rw [if_neg (by decide)] at hb
            clear hs1
            go_wp2_with fail
            refine HSee.out.mono ?_
            rintro e Vn1 ⟨rfl, hp, hg⟩
            have HX' := Lib.hid (HX.out.call hp hg HLG.out)
            clear hp hg HSee HX
            have HX := HX'
            clear HX'
            have HSee := Lib.hid (see_at HX.out.p ⟨#[102, 110]⟩)
            cases hs2 : s'.sees [⟨#[102, 110]⟩] with
            | true =>
              rw [hs2] at HSee hb
              clear hs2
              have hf := hb
              rw [if_pos rfl] at hf
              have HB := Lib.hid hf
              clear hb hf
              go_wp2_with fail
              refine HSee.out.mono ?_
              rintro e Va2 ⟨rfl, hp, hg⟩
              have HX2 := Lib.hid (HX.out.call hp hg HLG.out)
              clear hp hg HSee HX; (try clear d0 d2)
              obtain ⟨A0, n0, c0, A1, n1, c1, A2, n2, c2, hgq, r0, r1, r2, -⟩ := HX2.out
              obtain ⟨hn2, -⟩ := Kd.R_reads' r2
              (try simp only at hn2)
              subst hn2
              obtain ⟨⟨g0, g1, g2⟩, f0, f1, f2⟩ := hgq.cells3
              clear hgq r0 r1 r2
              have HLi := Lib.hid (limit_at HX2.out.p p.f2.length 16)
              have HO1 := Lib.hid (okC.limit p.f2.length 16 HI.out.2)
              have HPr : Hid ((s'.limit p.f2.length 16).function.2.bad ≠ -1 ∨ (s'.limit p.f2.length 16).function.2.toks.length < kk) := Lib.hid (Rd.function_prog HO1.out (by rw [Rd.limit_toks]; exact HL0.out))
              generalize s'.limit p.f2.length 16 = s2 at *
              go_wp2_with fail
              refine HLi.out.mono ?_
              rintro e Vb ⟨⟨vb, rfl⟩, hp, hg⟩
              clear g0 g1 g2 f0 f1 f2
              have HX3 := Lib.hid (HX2.out.call hp hg HLG.out)
              clear hp hg HLi HX2
              obtain ⟨A0, n0, c0, A1, n1, c1, A2, n2, c2, hgq, r0, r1, r2, hp, hr⟩ := HX3.out
              clear HX3
              have HG4 := Lib.hid hgq
              have HR4 := Lib.hid hr
              have HP4 := Lib.hid hp
              have H0 := Lib.hid r0
              have H1 := Lib.hid r1
              have H2 := Lib.hid r2
              have HVl := Lib.hid (Kd.R_lt r2)
              obtain ⟨⟨g0, g1, g2⟩, f0, f1, f2⟩ := hgq.cells3
              clear g0 g1 f0 f1 f2 hgq r0 r1 r2 hp hr
              have HPa := Lib.hid (function_at (HP4.out.bel (below_drew (Below.refl _ _))) HO1.out)
              have HO2 := Lib.hid (okC.function HO1.out)
              generalize s2.function = q at *
              obtain ⟨y, s3⟩ := q
              simp only at HPa HO2 HPr HB
              go_wp2_with fail
              go_region_law (first
                | (go_simp; refine HPa.out.mono ?_; rintro e V5 ⟨B2, m2, k2, B3, m3, k3, B5, m5, k5, rfl, hm5, hp5, hg5⟩; have hg5' := grown_trans (grown_below (below_drew (Below.refl Vb.heap.size Vb))) hg5; have HP5 := Lib.hid hp5; have HM5 := Lib.hid hm5; have HR5 := Lib.hid (HR4.out.ps hg5' HRB.out); have HG5 := Lib.hid (HG4.out.ps hg5' HGB.out); have H05 := Lib.hid (RW.grown H0.out hg5' HLt.out); have H15 := Lib.hid (RW.grown H1.out hg5' HLt.out); have H25 := Lib.hid (RW.grown H2.out hg5' HLt.out); have HSz5 : Hid (W.heap.size ≤ V5.heap.size) := Lib.hid hp5.size; have HSw5 : Hid (W.heap.size ≤ Vb.heap.size) := Lib.hid HP4.out.size; have q1 := HG5.out.cells3.1.2.2; have q2 := fun o => cell_al HG5.out.cells3.1.2.2 o; clear hp5 hg5 hg5' hm5)
                | (refine row_append_step k63 W.heap.size Vb.heap.size rfl (.tmp 61) (.tmp 64) 25 63 _ 112 rfl Tryz.underlying25 infoFunc rfl (by decide) (by decide) _ p.f2 y _ rfl rfl HM5.out H25.out HVl.out HSw5.out HSz5.out (by have := HI.out.1; have := HFF.out; omega) ?_; intro v6 V6 hw6 hg6 hb6; obtain ⟨A6, n6, c6, rfl⟩ := RW.slice hw6; have HP6 := Lib.hid (HP5.out.app hg6 hb6); have HG6 := Lib.hid (HG5.out.grown hg6 (H25.out.far HG5.out (by decide))); have HR6 := Lib.hid (HR5.out.grown hg6 (H25.out.far HR5.out (by decide))); have H26 := Lib.hid hw6; have H06 := Lib.hid (RW.over' H05.out hg6 (fun k hk => by obtain ⟨cs, t, hb, ht⟩ := RW.typed H25.out k hk; exact ⟨cs, t, hb, fun q hq => by rw [ht]; exact Ep02 q hq⟩)); have H16 := Lib.hid (RW.over' H15.out hg6 (fun k hk => by obtain ⟨cs, t, hb, ht⟩ := RW.typed H25.out k hk; exact ⟨cs, t, hb, fun q hq => by rw [ht]; exact Ep12 q hq⟩)); clear hw6 hg6 hb6; obtain ⟨⟨e0, e1, e2⟩, d0, d1, d2⟩ := HG6.out.cells3))
              all_goals
                have HXs : Hid (PX w0 W (V6.setCell ⟨G, 2, none⟩ (.slice A6 n6 c6)) B G ⟨p.f0, p.f1, p.f2 ++ [y]⟩ s3) := Lib.hid ⟨A0, n0, c0, A1, n1, c1, A6, n6, c6, HG6.out.set 2 _, RW.set H06.out HG6.out Ep0 2 _, RW.set H16.out HG6.out Ep1 2 _, RW.set H26.out HG6.out Ep2 2 _, HP6.out.set (p := ⟨G, 2, none⟩) (Nat.le_of_lt HLG.out) _, HR6.out.far (p := ⟨G, 2, none⟩) HRG.out _⟩
                clear HP6 HR6 H06 H16 H26 HP5 HR5 H05 H15 H25
                go_wp2_with fail
                go_roundg kk
                case measure => omega
                case rel => exact ⟨s3, ⟨p.f0, p.f1, p.f2 ++ [y]⟩, ⟨by simp only [List.length_append, List.length_singleton]; have := HI.out.1; omega, HO2.out⟩, ⟨HPr.out⟩, ⟨HB.out⟩, ⟨HXs.out⟩⟩
            | false =>
              rw [hs2] at HSee hb
              rw [if_neg (by decide)] at hb
              clear hs2
              go_wp2_with fail
              refine HSee.out.mono ?_
              rintro e Vn2 ⟨rfl, hp, hg⟩
              have HX' := Lib.hid (HX.out.call hp hg HLG.out)
              clear hp hg HSee HX
              have HX := HX'
              clear HX'
              have HB := Lib.hid hb
              clear hb
              go_wp2_with fail
              refine (fail_at HX.out.p).mono ?_
              rintro e Vf ⟨⟨vf, rfl⟩, hp, hg⟩
              have HX2 := Lib.hid (HX.out.call hp hg HLG.out)
              clear hp hg HX
              go_wp2_with fail
              go_roundg kk
              case measure => omega
              case rel => exact ⟨_, p, ⟨by have := HI.out.1; omega, okC.fail HI.out.2⟩, ⟨.inl (Rd.fail_bad HI.out.2)⟩, ⟨HB.out⟩, ⟨HX2.out⟩⟩
    · have hst := Rd.program_out gk s' p hgo
      have hf : fin = (p, s') := by rw [← HB.out, hst]
      have HF' := Lib.hid hf
      clear hf hst HB HI HLn
      obtain ⟨A0, n0, c0, A1, n1, c1, A2, n2, c2, hgq, r0, r1, r2, hp, hr⟩ := HX.out
      clear HX
      have HR5 := Lib.hid hr
      have HP5 := Lib.hid hp
      have H0 := Lib.hid r0
      have H1 := Lib.hid r1
      have H2 := Lib.hid r2
      obtain ⟨⟨g0, g1, g2⟩, f0, f1, f2⟩ := hgq.cells3
      obtain ⟨⟨e0, e1, e2⟩, h0, h1, h2⟩ := hr.cells3
      clear hgq r0 r1 r2 hp hr
      by_cases hbad : s'.bad = -1
      all_goals
        first
          | (have hb1 : (s'.bad == -1) = true := by rw [hbad]; rfl
             have hnil : s'.toks = [] := by
               by_cases ht : s'.toks = []
               · exact ht
               · exact absurd ⟨hbad, ht⟩ hgo
             rw [hnil] at d0
             simp only [List.length_nil] at d0
             clear hnil hbad hgo)
          | (have hb1 : (s'.bad == -1) = false := by rw [beq_eq_false_iff_ne]; exact hbad
             clear hbad hgo)
        go_wp2_with fail
        refine post_at (fun U => Blk U W.heap.size #[.slice A0 n0 c0, .slice A1 n1 c1, .slice A2 n2 c2] 27 ∧ RW k77 77 U W.heap.size (.slice A0 n0 c0) p.f0 ∧ RW k80 80 U W.heap.size (.slice A1 n1 c1) p.f1 ∧ RW k63 63 U W.heap.size (.slice A2 n2 c2) p.f2 ∧ PS w0 W U B s') ⟨?_, ?_, ?_, ?_, ?_⟩ ?_
        · exact HR5.out.all3 _ _ _
        · exact RW.over H0.out HR5.out Ep0 (sets3 _ _ _ _ _)
        · exact RW.over H1.out HR5.out Ep1 (sets3 _ _ _ _ _)
        · exact RW.over H2.out HR5.out Ep2 (sets3 _ _ _ _ _)
        · exact HP5.out.own (sets3 _ _ _ _ _) (Nat.le_refl _)
        · rintro U ⟨hbx, w0', w1', w2', hps⟩
          obtain ⟨⟨z0, z1, z2⟩, -⟩ := hbx.cells3
          exact bodyPost_ret (v := .agg #[.slice A0 n0 c0, .slice A1 n1 c1, .slice A2 n2 c2]) (by simp [results, Tryz.results17, go_sem, z0, z1, z2]) rfl ⟨A0, n0, c0, A1, n1, c1, A2, n2, c2, rfl, by rw [HF'.out]; exact w0', by rw [HF'.out]; exact w1', by rw [HF'.out]; exact w2', by rw [HF'.out]; exact hps⟩
end Go.Proofs.YtmgkejobolgkmaaGreatDoor.PL
