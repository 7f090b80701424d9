/- Package code: a reader's image: its contract. -/
import Derived.Test.YtoiakaagbgfocaaCoImgR
namespace Go.Proofs.Ytoiakaagbgfocaa.PC
open Go.RowKit Go.Proofs.YtoiakaagbgfocaaW.PrintWords Go.Proofs.YtoiakaagbgfocaaW.PrintLast Go.Proofs.YtoiakaagbgfocaaW.PrintMore
open Go.Proofs.Ytoiakaagbgfocaa.RG
set_option linter.unusedVariables false
set_option linter.unusedSimpArgs false
attribute [local go_sem] Oper.semAt_some

theorem info73 : (Try.prog.info? 73).map (fun i => (i.zero, i.size, i.bytes)) = some (some (.agg #[(.int .i64 0), (.int .i64 0)]), 2, 16) := by kernel_rfl
theorem bodyPostM_ret2 {F : Fence} {n : Nat} {P : Program} {fn : Func} {R : Ending → World → Prop} {a : Act} {W : World} {D D' : Nat} (v : Value) (hd : a.defers = [{ target := .collected D, args := #[] }, { target := .collected D', args := #[] }]) (hK : W.heap[D]? = some (.deferred (some []))) (hK' : W.heap[D']? = some (.deferred (some []))) (hne : D' ≠ D)
    (h : ∀ W', W' = (W.putObj D (.deferred none)).putObj D' (.deferred none) → (results fn a.tmps).run P W' = .ok v W' ∧ R (.returned v) W') : bodyPostM F n P fn R .ret a W := by
  show LeavesInM F n P fn a.tmps R a.defers .returning W
  rw [hd]
  obtain ⟨h1, h2⟩ := h _ rfl
  exact ⟨by simp, .inl ⟨_, _, rfl, run_takeDeferred hK, by simp, .inl ⟨_, _, rfl, run_takeDeferred ((World.putObj_heap_other hne).trans hK'), v, h1, h2⟩⟩⟩
theorem E73 : (73 :: k73.E) = [73] := rfl
theorem E42 : (42 :: k42.E) = [42] := rfl
theorem E66 : (66 :: k66.E) = [66] := rfl
theorem E48 : (48 :: k48.E) = [48, 73] := rfl
theorem E40 : (40 :: k40.E) = [40, 42, 66] := rfl
/-- within the reading of an instruction's three numbers -/
structure InX (w0 V U : World) (B Rb : Nat) (l : List Int) (e : Int) (o : Int) : Prop where mk ::
  (c : Chg (fun k => k = B ∨ V.heap.size ≤ k) V U) (r : RdAt w0 U B l e) (x : Blk U V.heap.size #[.int .i64 o, .int .i64 0, .int .i64 0, .int .i64 0] 42) (rb : Blk U Rb #[.pointer (some ⟨B, 0, none⟩)] 60)
theorem InX.drew {w0 V U : World} {B Rb : Nat} {l : List Int} {e : Int} {o : Int} (h : InX w0 V U B Rb l e o) : InX w0 V U.drew B Rb l e o :=
  ⟨h.c.drew, (Chg.of_below (below_drew (Below.refl _ _)) (fun _ => False)).rd h.r (fun h => h), h.x.drew, h.rb.drew⟩
theorem InX.bel {w0 V U : World} {B Rb : Nat} {l : List Int} {e : Int} {o : Int} (h : InX w0 V U B Rb l e o) (hb : Below w0.heap.size w0 V) (hB : w0.heap.size ≤ B) : Below w0.heap.size w0 U :=
  hb.trans (h.c.below hb.size (by rintro q (h1 | h1); · omega
                                  · have := hb.size; omega))
theorem InX.on {w0 V U U' : World} {B Rb : Nat} {l l' : List Int} {e e' : Int} {o : Int} (h : InX w0 V U B Rb l e o) (hg : U.grownBy U' (some B)) (hR : RdAt w0 U' B l' e') (hV : B < V.heap.size) (hRb : B ≠ Rb) : InX w0 V U' B Rb l' e' o :=
  ⟨h.c.on (Chg.of_grown hg (fun q e => by cases e; exact .inl rfl)), hR, h.x.grown hg (fun e => by cases e; omega), h.rb.grown hg (fun e => by cases e; omega)⟩
set_option maxRecDepth 100000 in
set_option maxHeartbeats 16000000 in
theorem image_r (w0 w : World) (B : Nat) (l : List Int) (e : Int) (fin : (List S48 × List S40 × Int) × List Int × Int) (hfin : imageR l e = fin)
    (hb : Below w0.heap.size w0 w) (hB : w0.heap.size ≤ B) (hR : RdAt w0 w B l e) (hl : Byt l) :
    Calls Try.prog 28 #[.pointer (some ⟨B, 0, none⟩)] w fun e' w' => ∃ vg vc, e' = .returned (.agg #[vg, vc, .int .i64 fin.1.2.2]) ∧ RW k48 48 w' w.heap.size vg fin.1.1 ∧ RW k40 40 w' w.heap.size vc fin.1.2.1 ∧ RdAt w0 w' B fin.2.1 fin.2.2 ∧ Chg (fun k => k = B) w w' := by
  have hBw : B < w.heap.size := by
    obtain ⟨_, _, hbk, _⟩ := hR
    exact hbk.lt
  refine (callsIn_wide (n := 9)).1 ?_
  refine callsIn_of_wp_marks Try.func28 rfl trivial ?_ rfl
  simp only [Try.ntmps28, List.size_toArray, List.length_cons, List.length_nil, Nat.reduceAdd, Nat.reduceSub, Array.replicate_succ, Array.replicate_zero, List.push_toArray, List.append_toArray, List.nil_append, List.cons_append]
  have HF := Lib.hid hfin
  have HB := Lib.hid hb
  have HR := Lib.hid hR
  have HL := Lib.hid hl
  clear hfin hb hR hl
  gi_wp2_with fail
  refine call_in0 ?_
  refine at_world (fun V => Blk V w.heap.size #[.pointer (some ⟨B, 0, none⟩)] 60 ∧ Blk V (w.heap.size + 1) #[.slice none 0 0, .slice none 0 0, .int .i64 0] 25 ∧ Blk V (w.heap.size + 1 + 1) #[.slice none 0 0, .slice none 0 0, .int .i64 0] 25 ∧ Blk V (w.heap.size + 1 + 1 + 1) #[.pointer (some ⟨w.heap.size + 1 + 1, 2, none⟩)] 85 ∧ Hid (Below w.heap.size w V))
    ⟨((Blk.new w _ _).alloc _).alloc _ |>.alloc _, ((Blk.new' (by simp) _ _).alloc _).alloc _, (Blk.new' (by simp) _ _).alloc _, Blk.new' (by simp) _ _, Lib.hid (below_alloc (below_alloc (below_alloc (below_alloc (Below.refl _ _) _) _) _) _)⟩ ?_
  rintro V0 ⟨HRb, HRes, HMb, HLs, HBe⟩
  have HB1 := Lib.hid (HB.out.trans (HBe.out.mono (HB.out.size)))
  have HC1 := Lib.hid (Chg.of_below HBe.out (fun k => k = B ∨ w.heap.size ≤ k))
  have HR1 := Lib.hid ((Chg.of_below HBe.out (fun _ => False)).rd HR.out (fun h => h))
  clear HBe HR
  have hw0 := HB.out.size
  have hZ : V0.heap.size ≥ w.heap.size + 4 := by have := HLs.lt; omega
  clear hZ
  generalize hMb : w.heap.size + 1 + 1 = Mb at *
  have hMb2 : w.heap.size < Mb := by omega
  refine (numbers_r w0 V0 B Mb (Mb + 1) 25 1 [2] #[.pointer (some ⟨Mb, 2, none⟩)] (fun i o h => by
    match i, h with
    | 0, h => simp at h; subst h; rfl
    | i + 1, h => simp at h) (by simp) l e _ _ rfl (fun o ho => by simp at ho; subst ho; exact ⟨0, rfl⟩) (by omega) (by omega) (by omega) HB1.out hB (by omega) HR1.out HL.out HMb HLs).mono ?_
  rintro e1 V1 ⟨⟨v1, rfl⟩, HMb1, hR1, hc1⟩
  clear HMb
  replace HC1 := Lib.hid (HC1.out.trans hc1 (fun q hq => .inl (by rcases hq with h | h <;> omega)))
  replace HRb := hc1.blk HRb (by rintro (h | h) <;> omega)
  replace HRes := hc1.blk HRes (by rintro (h | h) <;> omega)
  have HL1 := Lib.hid (HL.out.num e)
  change Blk V1 Mb #[.slice none 0 0, .slice none 0 0, .int .i64 (numR l e).1] 25 at HMb1
  change RdAt w0 V1 B (numR l e).2.1 (numR l e).2.2 at hR1
  unfold imageR at HF
  generalize numR l e = r at *
  obtain ⟨m, l1, e1⟩ := r
  simp only at HF HMb1 hR1 HL1
  replace HR1 := Lib.hid hR1
  have HB2 := Lib.hid (HB.out.trans (HC1.out.below HB.out.size (by rintro q (h | h) <;> omega)))
  have cRb := HRb.cells1.1
  clear hc1 hR1 HLs HB1 HL V0
  gi_wp2_with fail
  refine call_in0 ?_
  refine (count_r w0 V1 B l1 e1 _ rfl HB2.out hB HR1.out HL1.out).mono ?_
  have HL2 := Lib.hid (HL1.out.count e1)
  have HLe := Lib.hid (countR_le HL1.out e1)
  have HF2 : Hid ((((loopR glueR (countR l1 e1).1.toNat (countR l1 e1).2.1 (countR l1 e1).2.2 []).1, (manyR codeR (loopR glueR (countR l1 e1).1.toNat (countR l1 e1).2.1 (countR l1 e1).2.2 []).2.1 (loopR glueR (countR l1 e1).1.toNat (countR l1 e1).2.1 (countR l1 e1).2.2 []).2.2).1, m), (manyR codeR (loopR glueR (countR l1 e1).1.toNat (countR l1 e1).2.1 (countR l1 e1).2.2 []).2.1 (loopR glueR (countR l1 e1).1.toNat (countR l1 e1).2.1 (countR l1 e1).2.2 []).2.2).2) = fin) := HF
  clear HF
  generalize countR l1 e1 = r at *
  obtain ⟨nn, l2, e2⟩ := r
  simp only at HF2 HL2 HLe
  have HMbV := Lib.hid HMb1.lt
  rintro e' V2 ⟨N, P, rfl, hN, hP, hR2, hc2, hN0, hP0⟩
  replace HC1 := Lib.hid (HC1.out.trans hc2 (fun q hq => .inl (.inl hq)))
  replace HRb := hc2.blk HRb (by omega)
  replace HRes := hc2.blk HRes (by omega)
  replace HMb1 := hc2.blk HMb1 (by omega)
  have HB2 := Lib.hid (HB.out.trans (HC1.out.below HB.out.size (by rintro q (h | h) <;> omega)))
  have hV1 : w.heap.size + 3 ≤ V2.heap.size := by have := HMb1.lt; omega
  have hMbV : Mb < V1.heap.size := HMbV.out
  obtain ⟨fg, hfg⟩ : ∃ fg, fg = loopR glueR nn.toNat l2 e2 [] := ⟨_, rfl⟩
  rw [← hfg] at HF2
  have HFg := Lib.hid hfg
  clear hc2 HR1 cRb HL1 hfg
  gi_wp2_with fail
  refine range_cnt_out (B := B) rfl (by decide) HLe.out.1 rfl
    (fun k W => ∃ l e gs vg, (loopR glueR (nn.toNat - k) l e gs = fg ∧ Byt l ∧ gs.length = k ∧ (k : Int) ≤ max nn 0 ∧ (e = 0 → nn ≤ 1048576)) ∧ RdAt w0 W B l e ∧ Blk W w.heap.size #[.pointer (some ⟨B, 0, none⟩)] 60 ∧ Blk W (w.heap.size + 1) #[.slice none 0 0, .slice none 0 0, .int .i64 0] 25 ∧ Blk W Mb #[vg, .slice none 0 0, .int .i64 m] 25 ∧ RW k48 48 W (w.heap.size + 3) vg gs ∧ Chg (fun k => k = B ∨ w.heap.size ≤ k) w W ∧ Blk W N #[.int .i64 nn] 2 ∧ Blk W P #[.pointer (some ⟨B, 0, none⟩)] 60)
    ?hI (fun k W h => ?hX) ?h0 (fun l k W K hi hk => ?hassign) ?hbody ?hdone
  case h0 => exact ⟨l2, e2, [], .slice none 0 0, ⟨HFg.out.symm, HL2.out, rfl, by omega, HLe.out.2⟩, hR2, HRb, HRes, HMb1, Kd.R_nil _ _ _ _ _, HC1.out, hN, hP⟩
  case hX =>
    obtain ⟨l, e, gs, vg, -, hr, -, -, -, -, -, hn, hp⟩ := h
    exact ⟨hn, hp, e, hr.err⟩
  case hassign =>
    gi_wp2
    exact hk
  case hI =>
    rintro k A C row ⟨l, e, gs, vg, hp, hr, hrb, hres, hmb, hw, hc, hn, hpp⟩ hg hrow
    have hk := chg_noncell hg hrow
    have hk2 : Chg (fun q => V2.heap.size ≤ q) A C := Chg.of_grown hg (fun q e => ((hrow q e).resolve_left (fun h => h)).1)
    exact ⟨l, e, gs, vg, hp, hr.noncell hk, hrb.noncell hk, hres.noncell hk, hmb.noncell hk, hw.noncell hk, hc.trans hk2 (fun q hq => .inr (by have := HC1.out.size; omega)), hn.noncell hk, hpp.noncell hk⟩
  case hbody =>
    clear HRb HRes HMb1 hN hP hR2 HFg HL2 HF2
    rintro lp k W hlp hrec ⟨l3, e3, gs, vg, ⟨hp, hl3, hgl, hkn, hen⟩, hr3, hrb, hres, hmb, hw, hc, hn, hpp⟩ hlt hE
    obtain rfl : e3 = 0 := hr3.err.one hE
    have hnn := hen rfl
    have HP := Lib.hid hp
    have HL3 := Lib.hid hl3
    have HGl := Lib.hid hgl
    have HWs := Lib.hid hw
    have HCw := Lib.hid hc
    have HR3 := Lib.hid ((Chg.of_below (below_alloc (below_alloc (Below.refl W.heap.size W) (.cells #[.int .i64 0, .int .i64 0, .int .i64 0, .slice none 0 0] 48)) (.cells #[.pointer (some ⟨W.heap.size, 0, none⟩), .pointer (some ⟨W.heap.size, 1, none⟩), .pointer (some ⟨W.heap.size, 2, none⟩)] 85)) (fun _ => False)).rd hr3 (fun h => h))
    have hBW : B < W.heap.size := by have := hc.size; omega
    have HRec := Lib.hid hrec
    have HBb : Hid (∃ cs t, Blk W B cs t) := Lib.hid (by obtain ⟨_, _, hbk, _⟩ := hr3; exact ⟨_, _, hbk⟩)
    have HBw0 := Lib.hid (HB.out.trans (hc.below HB.out.size (by rintro q (h | h) <;> omega)))
    have q0 := fun o => cell_al hrb.cells1.1 o
    clear hp hl3 hgl hw hc hr3 hE hrec
    gi_wp2_with fail
    refine call_round0 ?_
    refine at_world (fun V => Blk V W.heap.size #[.int .i64 0, .int .i64 0, .int .i64 0, .slice none 0 0] 48 ∧ Blk V (W.heap.size + 1) #[.pointer (some ⟨W.heap.size, 0, none⟩), .pointer (some ⟨W.heap.size, 1, none⟩), .pointer (some ⟨W.heap.size, 2, none⟩)] 85 ∧ Blk V w.heap.size #[.pointer (some ⟨B, 0, none⟩)] 60 ∧ Hid (Below W.heap.size W V) ∧ Hid (RdAt w0 V B l3 0))
      ⟨(Blk.new W _ _).alloc _, Blk.new' (by simp) _ _, (hrb.alloc _).alloc _, Lib.hid (below_alloc (below_alloc (Below.refl _ _) _) _), HR3⟩ ?_
    clear HR3 q0
    rintro V0 ⟨HG, HLs, HRb, HBe, HR3⟩
    have HC3 := Lib.hid (Chg.of_below HBe.out (fun k => k = B ∨ W.heap.size ≤ k))
    have HB3 := Lib.hid (HBw0.out.trans (HBe.out.mono (HBw0.out.size)))
    have hG : w.heap.size + 3 ≤ W.heap.size := by have := hmb.lt; omega
    refine (numbers_r w0 V0 B W.heap.size (W.heap.size + 1) 48 3 [0, 1, 2] #[.pointer (some ⟨W.heap.size, 0, none⟩), .pointer (some ⟨W.heap.size, 1, none⟩), .pointer (some ⟨W.heap.size, 2, none⟩)] (fun i o h => by
      match i, h with
      | 0, h => simp at h; subst h; rfl
      | 1, h => simp at h; subst h; rfl
      | 2, h => simp at h; subst h; rfl
      | i + 3, h => simp at h) (by simp) l3 0 _ _ rfl (fun o ho => by simp at ho; rcases ho with rfl | rfl | rfl <;> exact ⟨0, rfl⟩) (by omega) (by omega) (by omega) HB3.out hB (by omega) HR3.out HL3.out HG HLs).mono ?_
    rintro e1 V1 ⟨⟨vx, rfl⟩, HG1, hR1, hc1⟩
    clear HG
    replace HC3 := Lib.hid (HC3.out.trans hc1 (fun q hq => hq.elim (fun h => .inl (.inl h)) (fun h => .inr (by omega))))
    replace HRb := hc1.blk HRb (by rintro (h | h) <;> omega)
    have HL4 := Lib.hid (HL3.out.num3 0)
    change Blk V1 W.heap.size #[.int .i64 (num3R l3 0).1.1, .int .i64 (num3R l3 0).1.2.1, .int .i64 (num3R l3 0).1.2.2, .slice none 0 0] 48 at HG1
    change RdAt w0 V1 B (num3R l3 0).2.1 (num3R l3 0).2.2 at hR1
    have HB4 := Lib.hid (HBw0.out.trans (HC3.out.below HBw0.out.size (by rintro q (h | h) <;> omega)))
    have hgR : glueR l3 0 = (⟨(num3R l3 0).1.1, (num3R l3 0).1.2.1, (num3R l3 0).1.2.2, (manyR partR (num3R l3 0).2.1 (num3R l3 0).2.2).1⟩, (manyR partR (num3R l3 0).2.1 (num3R l3 0).2.2).2) := rfl
    have HLg := Lib.hid (HL3.out.glue 0)
    generalize num3R l3 0 = r at *
    obtain ⟨⟨g0, g1, g2⟩, l4, e4⟩ := r
    simp only at HG1 hR1 HL4 hgR
    have HR4 := Lib.hid hR1
    have cRb := HRb.cells1.1
    clear hc1 hR1 HLs HB3 HR3 HBe
    gi_wp2_with fail
    refine call_round0 ?_
    refine (count_r w0 V1 B l4 e4 _ rfl HB4.out hB HR4.out HL4.out).mono ?_
    have HL5 := Lib.hid (HL4.out.count e4)
    have HLe2 := Lib.hid (countR_le HL4.out e4)
    unfold manyR at hgR
    generalize countR l4 e4 = r at *
    obtain ⟨n2, l5, e5⟩ := r
    simp only at hgR HL5 HLe2
    rintro e' V2' ⟨N2, P2, rfl, hN2, hP2, hR5, hc2, hN20, hP20⟩
    have hV1w : W.heap.size < V1.heap.size := HG1.lt
    have hV1b : B < V1.heap.size := by omega
    replace HC3 := Lib.hid (HC3.out.trans hc2 (fun q hq => .inl (.inl hq)))
    replace HRb := hc2.blk HRb (by omega)
    replace HG1 := hc2.blk HG1 (by omega)
    obtain ⟨fp, hfp⟩ : ∃ fp, fp = loopR partR n2.toNat l5 e5 [] := ⟨_, rfl⟩
    rw [← hfp] at hgR
    have HFp := Lib.hid hfp
    have HgR := Lib.hid hgR
    have hV2 : W.heap.size < V2'.heap.size := HG1.lt
    obtain ⟨rl, hrl⟩ := HRec.out
    have hrl2 : V2'.heap[lp]? = some (.loop rl) := by
      have hlt := (Array.getElem?_eq_some_iff.1 hrl).1
      refine (HC3.out.block lp hlt ?_).trans hrl
      rintro (h | h)
      · omega
      · omega
    clear hc2 HR4 cRb HL4 hfp hgR
    gi_wp2_with fail
    refine range_cnt_in (B := B) hrl2 rfl (by decide) HLe2.out.1 rfl
      (fun k V => ∃ l e ps vp, (loopR partR (n2.toNat - k) l e ps = fp ∧ Byt l ∧ ps.length = k ∧ (k : Int) ≤ max n2 0 ∧ (e = 0 → n2 ≤ 1048576)) ∧ RdAt w0 V B l e ∧ Blk V w.heap.size #[.pointer (some ⟨B, 0, none⟩)] 60 ∧ Blk V W.heap.size #[.int .i64 g0, .int .i64 g1, .int .i64 g2, vp] 48 ∧ RW k73 73 V W.heap.size vp ps ∧ Chg (fun k => k = B ∨ W.heap.size ≤ k) W V ∧ Blk V N2 #[.int .i64 n2] 2 ∧ Blk V P2 #[.pointer (some ⟨B, 0, none⟩)] 60)
      ?hI2 (fun k W h => ?hX2) ?h02 (fun l k W K hi hk => ?hassign2) ?hbody2 ?hdone2
    case h02 => exact ⟨l5, e5, [], .slice none 0 0, ⟨HFp.out.symm, HL5.out, rfl, by omega, HLe2.out.2⟩, hR5, HRb, HG1, Kd.R_nil _ _ _ _ _, HC3.out, hN2, hP2⟩
    case hX2 =>
      obtain ⟨l, e, ps, vp, -, hr, -, -, -, -, hn, hp⟩ := h
      exact ⟨hn, hp, e, hr.err⟩
    case hassign2 =>
      gi_wp2
      exact hk
    case hI2 =>
      rintro k A C row ⟨l, e, ps, vp, hp, hr, hrb, hgb, hw, hc, hn, hpp⟩ hg hrow
      have hk := chg_noncell hg hrow
      have hk2 : Chg (fun q => V2'.heap.size ≤ q) A C := Chg.of_grown hg (fun q e => ((hrow q e).resolve_left (fun h => h)).1)
      exact ⟨l, e, ps, vp, hp, hr.noncell hk, hrb.noncell hk, hgb.noncell hk, hw.noncell hk, hc.trans hk2 (fun q hq => .inr (by omega)), hn.noncell hk, hpp.noncell hk⟩
    case hbody2 =>
      clear HRb HG1 hN2 hP2 hR5 HFp HL5 HgR
      rintro lq j V hlq hrec2 ⟨l6, e6, ps, vp, ⟨hp, hl6, hpl, hjn, hen2⟩, hr6, hrb2, hgb, hw2, hc6, hn6, hpp6⟩ hlt2 hE2
      obtain rfl : e6 = 0 := hr6.err.one hE2
      have hnn2 := hen2 rfl
      have HP6 := Lib.hid hp
      have HL6 := Lib.hid hl6
      have HPl := Lib.hid hpl
      have HWp := Lib.hid hw2
      have HC6 := Lib.hid hc6
      have HJn := Lib.hid hlt2
      have HGb := Lib.hid hgb
      have hN6 := Lib.hid hn6
      have hP6 := Lib.hid hpp6
      have HRb2 := Lib.hid hrb2
      have HBb6 : Hid (∃ cs t, Blk V B cs t) := Lib.hid (by obtain ⟨_, _, hbk, _⟩ := hr6; exact ⟨_, _, hbk⟩)
      have HR6 := Lib.hid ((Chg.of_below (below_alloc (below_alloc (Below.refl V.heap.size V) (.cells #[.int .i64 0, .int .i64 0] 73)) (.cells #[.pointer (some ⟨V.heap.size, 0, none⟩), .pointer (some ⟨V.heap.size, 1, none⟩)] 85)) (fun _ => False)).rd hr6 (fun h => h))
      have hBV : B < V.heap.size := by have := hc6.size; omega
      have hGV : W.heap.size < V.heap.size := hgb.lt
      have HBw6 := Lib.hid (HBw0.out.trans (hc6.below HBw0.out.size (by rintro q (h | h) <;> omega)))
      have q0 := fun o => cell_al hrb2.cells1.1 o
      clear hp hl6 hpl hw2 hc6 hr6 hE2 hrec2 hgb hn6 hpp6 hrb2 hlt2 hen2
      gi_wp2_with fail
      refine call_round0 ?_
      refine at_world (fun U => Blk U V.heap.size #[.int .i64 0, .int .i64 0] 73 ∧ Blk U (V.heap.size + 1) #[.pointer (some ⟨V.heap.size, 0, none⟩), .pointer (some ⟨V.heap.size, 1, none⟩)] 85 ∧ Hid (Below V.heap.size V U) ∧ Hid (RdAt w0 U B l6 0))
        ⟨(Blk.new V _ _).alloc _, Blk.new' (by simp) _ _, Lib.hid (below_alloc (below_alloc (Below.refl _ _) _) _), HR6⟩ ?_
      clear HR6 q0
      rintro U0 ⟨HPb, HLs, HBe, HR6⟩
      have HC7 := Lib.hid (Chg.of_below HBe.out (fun k => k = B ∨ V.heap.size ≤ k))
      have HB7 := Lib.hid (HBw6.out.trans (HBe.out.mono (HBw6.out.size)))
      refine (numbers_r w0 U0 B V.heap.size (V.heap.size + 1) 73 2 [0, 1] #[.pointer (some ⟨V.heap.size, 0, none⟩), .pointer (some ⟨V.heap.size, 1, none⟩)] (fun i o h => by
        match i, h with
        | 0, h => simp at h; subst h; rfl
        | 1, h => simp at h; subst h; rfl
        | i + 2, h => simp at h) (by simp) l6 0 _ _ rfl (fun o ho => by simp at ho; rcases ho with rfl | rfl <;> exact ⟨0, rfl⟩) (by omega) (by omega) (by omega) HB7.out hB (by omega) HR6.out HL6.out HPb HLs).mono ?_
      rintro e1 U1 ⟨⟨vy, rfl⟩, HPb1, hR7, hc7⟩
      replace HC7 := Lib.hid (HC7.out.trans hc7 (fun q hq => hq.elim (fun h => .inl (.inl h)) (fun h => .inr (by omega))))
      have HL7 := Lib.hid (HL6.out.part 0)
      change Blk U1 V.heap.size #[.int .i64 (partR l6 0).1.f0, .int .i64 (partR l6 0).1.f1] 73 at HPb1
      change RdAt w0 U1 B (partR l6 0).2.1 (partR l6 0).2.2 at hR7
      have hlo : loopR partR (n2.toNat - j) l6 0 ps = loopR partR (n2.toNat - (j + 1)) (partR l6 0).2.1 (partR l6 0).2.2 (ps ++ [(partR l6 0).1]) := by
        rw [show n2.toNat - j = (n2.toNat - (j + 1)) + 1 by have := HJn.out; omega]
        rfl
      rw [HP6.out] at hlo
      have HLo := Lib.hid hlo
      generalize partR l6 0 = r at *
      obtain ⟨pt, l7, e7⟩ := r
      simp only at HPb1 hR7 HL7 HLo
      have hw7 := HWp.out.chg HC7.out (fun q hq hlt => hq.elim (fun h => .inl (by omega)) (fun h => absurd h (by omega)))
      have HR7 := Lib.hid hR7
      have HW7 := Lib.hid hw7
      have hgb7 := HC7.out.blk HGb.out (by rintro (h | h) <;> omega)
      obtain ⟨Av, cv, rfl⟩ := row_slice hw7
      obtain ⟨⟨x0, x1⟩, -⟩ := HPb1.cells2
      obtain ⟨⟨-, -, -, g3⟩, -⟩ := hgb7.cells4
      have HGb7 := Lib.hid hgb7
      clear hc7 hR7 HLs HB7 HR6 HBe hw7 hgb7 hlo HPb HPb1
      gi_wp2_with (gi_at_builtin; refine R_append_in k73 W.heap.size rfl (.tmp 29) (.tmp 31) 46 73 (.agg #[.int .i64 0, .int .i64 0]) 16 rfl Try.underlying46 info73 rfl (by decide) (by omega) (.slice Av ps.length cv) ps pt [.int .i64 pt.f0, .int .i64 pt.f1] (fun _ => True) (fun _ => False) rfl rfl (k73_mkM _ _ _ pt) (fun _ h => h.elim) (fun _ _ => trivial) HW7.out (by have := HC7.out.size; omega) (by have := HPl.out; have := HJn.out; omega) ?_; intro v1 w1 hR1 hG1 hat1; have hgb8 := HGb7.out.grown hG1 (RW.apart HW7.out HGb7.out (by decide)); obtain ⟨ps2, hps2⟩ : ∃ ps2, ps2 = ps ++ [pt] := ⟨_, rfl⟩; rw [← hps2] at hR1; have HPs2 := Lib.hid hps2; clear hps2; obtain ⟨A8, c8, rfl⟩ := row_slice hR1; have s3 := hgb8.cell 3; have f3 := hgb8.frozen 3; have HR8 := Lib.hid hR1; have HG8 := Lib.hid hG1; have HGb8 := Lib.hid hgb8; clear hat1 hR1 hG1 hgb8 x0 x1 g3)
      have hne8 := RW.apart HW7.out HGb7.out (by decide)
      have hC8 : Chg (fun k => k = B ∨ k = W.heap.size ∨ V.heap.size ≤ k ∨ (Value.slice Av ps.length cv).ownBlock = some k) V w1 := (HC7.out.mono (fun q _ h => h.elim .inl (fun h => .inr (.inr (.inl h))))).on (Chg.of_grown HG8.out (fun q e => .inr (.inr (.inr e))))
      have hC9 := hC8.set (p := ⟨W.heap.size, 3, none⟩) (.inr (.inl rfl)) (.slice A8 ps2.length c8)
      have hown : ∀ k, (Value.slice Av ps.length cv).ownBlock = some k → W.heap.size ≤ k ∧ k < V.heap.size ∧ ∃ cs, Blk V k cs 73 := fun k hk => HWp.out.own hk
      have hC10 : Chg (fun q => q ≠ B) U1 (w1.setCell ⟨W.heap.size, 3, none⟩ (.slice A8 ps2.length c8)) := (Chg.of_grown HG8.out (fun q e => by have := (hown q e).1; omega)).set (p := ⟨W.heap.size, 3, none⟩) (show W.heap.size ≠ B by omega) _
      refine ⟨hC9.from _ ?_, l7, e7, ps2, _, ⟨HLo.out.symm ▸ ?_, HL7.out, ?_, ?_, fun _ => hnn2⟩, hC10.rd HR7.out (fun h => h rfl), hC9.blk HRb2.out ?_, HGb8.out.set 3 _, RW.chg HR8.out (Chg.of_grown (S := fun q => q = W.heap.size) (grown_set w1 ⟨W.heap.size, 3, none⟩ _) (fun q e => by cases e; rfl)) ?_, HC6.out.trans hC9 ?_, hC9.blk hN6.out ?_, hC9.blk hP6.out ?_⟩
      · rintro q (h | h | h | h) hlt
        · subst h
          exact HBb6.out
        · subst h
          exact ⟨_, _, HGb.out⟩
        · omega
        · obtain ⟨_, _, cs, hb⟩ := hown q h
          exact ⟨cs, _, hb⟩
      · rw [HPs2.out]
      · rw [HPs2.out]
        simp
        exact HPl.out
      · have := HJn.out
        omega
      · rintro (h | h | h | h)
        · omega
        · omega
        · omega
        · have := (hown _ h).1
          omega
      · intro q hq _
        subst hq
        exact .inr (fun q hq cells e => by
          rw [HGb8.out.out] at e
          cases e
          exact absurd hq (by rw [E73]; decide))
      · rintro q (h | h | h | h)
        · exact .inl (.inl h)
        · exact .inr (by omega)
        · exact .inr (by omega)
        · exact .inr (hown q h).1
      · have := hN6.out.lt
        rintro (h | h | h | h)
        · omega
        · omega
        · omega
        · exact RW.apart HWp.out hN6.out (by decide) h
      · have := hP6.out.lt
        rintro (h | h | h | h)
        · omega
        · omega
        · omega
        · exact RW.apart HWp.out hP6.out (by decide) h
    case hdone2 =>
      clear HRb HG1 hN2 hP2 hR5 HFp HL5
      rintro j V ⟨l6, e6, ps, vp, ⟨hp, hl6, hpl, hjn, hen2⟩, hr6, hrb2, hgb, hw2, hc6, -, -⟩ hstop
      have hfp : fp = (ps, l6, e6) := by
        rcases hstop with h | ⟨e', h0, he'⟩
        · rw [← hp, show n2.toNat - j = 0 by omega]
          rfl
        · obtain rfl := hr6.err.one he'
          rw [← hp, loopR_err _ _ _ _ _ h0]
      have hgR := HgR.out
      rw [hfp] at hgR
      have hlo : loopR glueR (nn.toNat - k) l3 0 gs = loopR glueR (nn.toNat - (k + 1)) l6 e6 (gs ++ [⟨g0, g1, g2, ps⟩]) := by
        rw [show nn.toNat - k = (nn.toNat - (k + 1)) + 1 by omega]
        show loopR glueR (nn.toNat - (k + 1)) (glueR l3 0).2.1 (glueR l3 0).2.2 (gs ++ [(glueR l3 0).1]) = _
        rw [hgR]
      rw [HP.out] at hlo
      have HLo := Lib.hid hlo
      have HL6 := Lib.hid hl6
      have hmb6 := hc6.blk hmb (by rintro (h | h) <;> omega)
      have hw6 : RW k48 48 V (w.heap.size + 3) vg gs := HWs.out.chg hc6 (fun q hq hlt => hq.elim (fun h => .inl (by omega)) (fun h => absurd h (by omega)))
      have HE6 : Hid (k73.R 73 V (w.heap.size + 3) (fun k => ∃ q, q ∈ 73 :: k73.E ∧ ∃ cells, V.heap[k]? = some (.cells cells q (0, 0))) vp ps) := Lib.hid (Kd.R_lower hw2.in (by omega))
      obtain ⟨Av, cv, rfl⟩ := row_slice hw2
      obtain ⟨Ag, cg, rfl⟩ := row_slice hw6
      obtain ⟨⟨m0, -, -⟩, -⟩ := hmb6.cells3
      obtain ⟨⟨x0, x1, x2, x3⟩, -⟩ := hgb.cells4
      have HR6 := Lib.hid hr6
      have HC6 := Lib.hid hc6
      have HMb6 := Lib.hid hmb6
      have HW6 := Lib.hid hw6
      have HRb6 := Lib.hid (HCw.out)
      have hok : ∀ q, (∃ t, t ∈ 73 :: k73.E ∧ ∃ cells, V.heap[q]? = some (.cells cells t (0, 0))) → True ∧ some q ≠ (Value.slice Ag gs.length cg).ownBlock := fun q hq => ⟨trivial, fun e => by
        obtain ⟨t, ht, cells, hcl⟩ := hq
        obtain ⟨_, _, cs', hb⟩ := HW6.out.own e.symm
        rw [hb.out] at hcl
        cases hcl
        exact absurd ht (by rw [E73]; decide)⟩
      have HOk := Lib.hid hok
      clear hstop hfp hgR hlo hl6 hp hmb6 hw6 hw2 hgb hr6 hc6 hok hpl hjn hen2
      gi_wp2_with (gi_at_builtin; refine R_append_in k48 (w.heap.size + 3) rfl (.tmp 35) (.tmp 37) 22 48 (.agg #[.int .i64 0, .int .i64 0, .int .i64 0, .slice none 0 0]) 48 rfl Try.underlying22 info48 rfl (by decide) (by omega) (.slice Ag gs.length cg) gs ⟨g0, g1, g2, ps⟩ [.int .i64 g0, .int .i64 g1, .int .i64 g2, .slice Av ps.length cv] (fun _ => True) _ rfl rfl (k48_mkM _ _ _ ⟨g0, g1, g2, ps⟩ HE6.out) HOk.out (fun _ _ => trivial) HW6.out (by have := HC6.out.size; omega) (by have := HGl.out; omega) ?_; intro v1 w1 hR1 hG1 hat1; have hmb8 := HMb6.out.grown hG1 (RW.apart HW6.out HMb6.out (by decide)); obtain ⟨gs2, hgs2⟩ : ∃ gs2, gs2 = gs ++ [(⟨g0, g1, g2, ps⟩ : S48)] := ⟨_, rfl⟩; rw [← hgs2] at hR1; have HGs2 := Lib.hid hgs2; clear hgs2; obtain ⟨A8, c8, rfl⟩ := row_slice hR1; have s3 := hmb8.cell 0; have f3 := hmb8.frozen 0; have HR8 := Lib.hid hR1; have HG8 := Lib.hid hG1; have HMb8 := Lib.hid hmb8; clear hat1 hR1 hG1 hmb8 x0 x1 x2 x3 m0)
      have hown : ∀ k, (Value.slice Ag gs.length cg).ownBlock = some k → w.heap.size + 3 ≤ k ∧ k < W.heap.size ∧ ∃ cs, Blk W k cs 48 := fun k hk => HWs.out.own hk
      have hC8 : Chg (fun q => q = B ∨ q = Mb ∨ W.heap.size ≤ q ∨ (Value.slice Ag gs.length cg).ownBlock = some q) W w1 := (HC6.out.mono (fun q _ h => h.elim .inl (fun h => .inr (.inr (.inl h))))).on (Chg.of_grown HG8.out (fun q e => .inr (.inr (.inr e))))
      have hC9 := hC8.set (p := ⟨Mb, 0, none⟩) (.inr (.inl rfl)) (.slice A8 gs2.length c8)
      have hC10 : Chg (fun q => q ≠ B) V (w1.setCell ⟨Mb, 0, none⟩ (.slice A8 gs2.length c8)) := (Chg.of_grown HG8.out (fun q e => by have := (hown q e).1; omega)).set (p := ⟨Mb, 0, none⟩) (show Mb ≠ B by omega) _
      refine ⟨hC9.from _ ?_, l6, e6, gs2, _, ⟨HLo.out.symm ▸ ?_, HL6.out, ?_, ?_, fun _ => hnn⟩, hC10.rd HR6.out (fun h => h rfl), hC9.blk hrb ?_, hC9.blk hres ?_, HMb8.out.set 0 _, RW.chg HR8.out (Chg.of_grown (S := fun q => q = Mb) (grown_set w1 ⟨Mb, 0, none⟩ _) (fun q e => by cases e; rfl)) (fun q hq _ => .inl (by omega)), HCw.out.trans hC9 ?_, hC9.blk hn ?_, hC9.blk hpp ?_⟩
      · rintro q (h | h | h | h) hlt
        · subst h
          exact HBb.out
        · subst h
          exact ⟨_, _, hmb⟩
        · omega
        · obtain ⟨_, _, cs, hb⟩ := hown q h
          exact ⟨cs, _, hb⟩
      · rw [HGs2.out]
      · rw [HGs2.out]
        simp
        exact HGl.out
      · omega
      · rintro (h | h | h | h)
        · omega
        · omega
        · omega
        · have := (hown _ h).1
          omega
      · rintro (h | h | h | h)
        · omega
        · omega
        · omega
        · have := (hown _ h).1
          omega
      · rintro q (h | h | h | h)
        · exact .inl (.inl h)
        · exact .inr (by omega)
        · exact .inr (by have := HCw.out.size; omega)
        · exact .inr (by have := (hown q h).1; omega)
      · have := hn.lt
        rintro (h | h | h | h)
        · omega
        · omega
        · omega
        · exact RW.apart HWs.out hn (by decide) h
      · have := hpp.lt
        rintro (h | h | h | h)
        · omega
        · omega
        · omega
        · exact RW.apart HWs.out hpp (by decide) h
  case hdone =>
    clear HRb HRes HMb1 hN hP hR2 HFg HL2
    rintro D k W hD ⟨l3, e3, gs, vg, ⟨hp, hl3, hgl, hkn, hen⟩, hr3, hrb, hres, hmb, hw, hc, -, -⟩ hstop hK
    have hfg : fg = (gs, l3, e3) := by
      rcases hstop with h | ⟨e', h0, he'⟩
      · rw [← hp, show nn.toNat - k = 0 by omega]
        rfl
      · obtain rfl := hr3.err.one he'
        rw [← hp, loopR_err _ _ _ _ _ h0]
    rw [hfg] at HF2
    have HL3 := Lib.hid hl3
    have HWg := Lib.hid hw
    have HC3 := Lib.hid hc
    have HR3 := Lib.hid hr3
    have HRb3 := Lib.hid hrb
    have HRes3 := Lib.hid hres
    have HMb3 := Lib.hid hmb
    have HK3 := Lib.hid hK
    have HD := Lib.hid hD
    have HB3 := Lib.hid (HB.out.trans (hc.below HB.out.size (by rintro q (h | h) <;> omega)))
    have cRb := hrb.cells1.1
    clear hp hl3 hgl hkn hen hr3 hrb hres hmb hw hc hstop hK hfg hD
    gi_wp2_with fail
    refine call_in0 ?_
    refine (count_r w0 W B l3 e3 _ rfl HB3.out hB HR3.out HL3.out).mono ?_
    have HL4 := Lib.hid (HL3.out.count e3)
    have HLe4 := Lib.hid (countR_le HL3.out e3)
    have HF3 : Hid (((gs, (loopR codeR (countR l3 e3).1.toNat (countR l3 e3).2.1 (countR l3 e3).2.2 []).1, m), (loopR codeR (countR l3 e3).1.toNat (countR l3 e3).2.1 (countR l3 e3).2.2 []).2) = fin) := HF2
    clear HF2
    generalize countR l3 e3 = r at *
    obtain ⟨n4, l4, e4⟩ := r
    simp only at HF3 HL4 HLe4
    rintro e' V3 ⟨N4, P4, rfl, hN4, hP4, hR4, hc4, hN40, hP40⟩
    have HC4 := Lib.hid (HC3.out.trans hc4 (fun q hq => .inl (.inl hq)))
    have hrb4 := hc4.blk HRb3.out (by omega)
    have hres4 := hc4.blk HRes3.out (by omega)
    have hmb4 := hc4.blk HMb3.out (by omega)
    have hK4 : V3.heap[D]? = some (.deferred (some [])) := (hc4.block D (Array.getElem?_eq_some_iff.1 HK3.out).1 (fun e => by
      obtain ⟨_, _, hbk, _⟩ := HR3.out
      have h1 := hbk.out
      rw [← e, HK3.out] at h1
      cases h1)).trans HK3.out
    have hw4 : RW k48 48 V3 (w.heap.size + 3) vg gs := HWg.out.chg hc4 (fun q hq _ => .inl (by omega))
    have hMbW : Mb < W.heap.size := HMb3.out.lt
    have hDW : D < W.heap.size := (Array.getElem?_eq_some_iff.1 HK3.out).1
    have hWV3 : W.heap.size ≤ V3.heap.size := hc4.size
    have HB4 := Lib.hid (HB.out.trans (HC4.out.below HB.out.size (by rintro q (h | h) <;> omega)))
    obtain ⟨fc, hfc⟩ : ∃ fc, fc = loopR codeR n4.toNat l4 e4 [] := ⟨_, rfl⟩
    rw [← hfc] at HF3
    have HFc := Lib.hid hfc
    clear hc4 HR3 HRb3 HRes3 HMb3 cRb HL3 hfc HK3 HWg HC3 HC1 HB3
    gi_wp2_with fail
    refine range_cnt_out (B := B) rfl (by decide) HLe4.out.1 rfl
      (fun k W => ∃ l e cs vc, (loopR codeR (n4.toNat - k) l e cs = fc ∧ Byt l ∧ cs.length = k ∧ (k : Int) ≤ max n4 0 ∧ (e = 0 → n4 ≤ 1048576)) ∧ RdAt w0 W B l e ∧ Blk W w.heap.size #[.pointer (some ⟨B, 0, none⟩)] 60 ∧ Blk W (w.heap.size + 1) #[.slice none 0 0, .slice none 0 0, .int .i64 0] 25 ∧ Blk W Mb #[vg, vc, .int .i64 m] 25 ∧ RW k48 48 W (w.heap.size + 3) vg gs ∧ RW k40 40 W (w.heap.size + 3) vc cs ∧ Chg (fun k => k = B ∨ w.heap.size ≤ k) w W ∧ Blk W N4 #[.int .i64 n4] 2 ∧ Blk W P4 #[.pointer (some ⟨B, 0, none⟩)] 60 ∧ W.heap[D]? = some (.deferred (some [])))
      ?gI (fun k W h => ?gX) ?g0 (fun l k W K hi hk => ?gassign) ?gbody ?gdone
    case g0 => exact ⟨l4, e4, [], .slice none 0 0, ⟨HFc.out.symm, HL4.out, rfl, by omega, HLe4.out.2⟩, hR4, hrb4, hres4, hmb4, hw4, Kd.R_nil _ _ _ _ _, HC4.out, hN4, hP4, hK4⟩
    case gX =>
      obtain ⟨l, e, cs, vc, -, hr, -, -, -, -, -, -, hn, hp, -⟩ := h
      exact ⟨hn, hp, e, hr.err⟩
    case gassign =>
      gi_wp2
      exact hk
    case gI =>
      rintro k A C row ⟨l, e, cs, vc, hp, hr, hrb, hres, hmb, hw, hwc, hc, hn, hpp, hKd⟩ hg hrow
      have hk := chg_noncell hg hrow
      have hk2 : Chg (fun q => V3.heap.size ≤ q) A C := Chg.of_grown hg (fun q e => ((hrow q e).resolve_left (fun h => h)).1)
      exact ⟨l, e, cs, vc, hp, hr.noncell hk, hrb.noncell hk, hres.noncell hk, hmb.noncell hk, hw.noncell hk, hwc.noncell hk, hc.trans hk2 (fun q hq => .inr (by have := HC4.out.size; omega)), hn.noncell hk, hpp.noncell hk, (hk2.block D (Array.getElem?_eq_some_iff.1 hKd).1 (by omega)).trans hKd⟩
    case gbody =>
      clear hrb4 hres4 hmb4 hN4 hP4 hR4 HFc HL4 hw4 hK4
      rintro lp k Wc hlp hrec ⟨l3, e3, cs, vc, ⟨hp, hl3, hgl, hkn, hen⟩, hr3, hrb, hres, hmb, hwg, hw, hc, hn, hpp, hKd⟩ hlt hE
      obtain rfl : e3 = 0 := hr3.err.one hE
      have hnn := hen rfl
      have HP := Lib.hid hp
      have HL3 := Lib.hid hl3
      have HGl := Lib.hid hgl
      have HWs := Lib.hid hw
      have HWg := Lib.hid hwg
      have HKd := Lib.hid hKd
      have HCw := Lib.hid hc
      have HR3 := Lib.hid ((Chg.of_below (below_alloc (below_alloc (Below.refl Wc.heap.size Wc) (.cells #[.int .i64 0, .int .i64 0, .int .i64 0, .slice none 0 0, .slice none 0 0] 40)) (.cells #[.pointer (some ⟨Wc.heap.size, 0, none⟩), .pointer (some ⟨Wc.heap.size, 1, none⟩), .pointer (some ⟨Wc.heap.size, 2, none⟩)] 85)) (fun _ => False)).rd hr3 (fun h => h))
      have hBW : B < Wc.heap.size := by have := hc.size; omega
      have HRec := Lib.hid hrec
      have HBb : Hid (∃ cs t, Blk Wc B cs t) := Lib.hid (by obtain ⟨_, _, hbk, _⟩ := hr3; exact ⟨_, _, hbk⟩)
      have HBw0 := Lib.hid (HB.out.trans (hc.below HB.out.size (by rintro q (h | h) <;> omega)))
      have q0 := fun o => cell_al hrb.cells1.1 o
      clear hp hl3 hgl hw hwg hc hr3 hE hrec hKd hen
      gi_wp2_with fail
      refine call_round0 ?_
      refine at_world (fun V => Blk V Wc.heap.size #[.int .i64 0, .int .i64 0, .int .i64 0, .slice none 0 0, .slice none 0 0] 40 ∧ Blk V (Wc.heap.size + 1) #[.pointer (some ⟨Wc.heap.size, 0, none⟩), .pointer (some ⟨Wc.heap.size, 1, none⟩), .pointer (some ⟨Wc.heap.size, 2, none⟩)] 85 ∧ Blk V w.heap.size #[.pointer (some ⟨B, 0, none⟩)] 60 ∧ Hid (Below Wc.heap.size Wc V) ∧ Hid (RdAt w0 V B l3 0))
        ⟨(Blk.new Wc _ _).alloc _, Blk.new' (by simp) _ _, (hrb.alloc _).alloc _, Lib.hid (below_alloc (below_alloc (Below.refl _ _) _) _), HR3⟩ ?_
      clear HR3 q0
      rintro V0 ⟨HG, HLs, HRb, HBe, HR3⟩
      have HC3 := Lib.hid (Chg.of_below HBe.out (fun k => k = B ∨ Wc.heap.size ≤ k))
      have HB3 := Lib.hid (HBw0.out.trans (HBe.out.mono (HBw0.out.size)))
      have hG : w.heap.size + 3 ≤ Wc.heap.size := by have := hmb.lt; omega
      refine (numbers_r w0 V0 B Wc.heap.size (Wc.heap.size + 1) 40 3 [0, 1, 2] #[.pointer (some ⟨Wc.heap.size, 0, none⟩), .pointer (some ⟨Wc.heap.size, 1, none⟩), .pointer (some ⟨Wc.heap.size, 2, none⟩)] (fun i o h => by
        match i, h with
        | 0, h => simp at h; subst h; rfl
        | 1, h => simp at h; subst h; rfl
        | 2, h => simp at h; subst h; rfl
        | i + 3, h => simp at h) (by simp) l3 0 _ _ rfl (fun o ho => by simp at ho; rcases ho with rfl | rfl | rfl <;> exact ⟨0, rfl⟩) (by omega) (by omega) (by omega) HB3.out hB (by omega) HR3.out HL3.out HG HLs).mono ?_
      rintro e1 V1 ⟨⟨vx, rfl⟩, HG1, hR1, hc1⟩
      clear HG
      replace HC3 := Lib.hid (HC3.out.trans hc1 (fun q hq => hq.elim (fun h => .inl (.inl h)) (fun h => .inr (by omega))))
      replace HRb := hc1.blk HRb (by rintro (h | h) <;> omega)
      have HL4 := Lib.hid (HL3.out.num3 0)
      change Blk V1 Wc.heap.size #[.int .i64 (num3R l3 0).1.1, .int .i64 (num3R l3 0).1.2.1, .int .i64 (num3R l3 0).1.2.2, .slice none 0 0, .slice none 0 0] 40 at HG1
      change RdAt w0 V1 B (num3R l3 0).2.1 (num3R l3 0).2.2 at hR1
      have HB4 := Lib.hid (HBw0.out.trans (HC3.out.below HBw0.out.size (by rintro q (h | h) <;> omega)))
      have hgR : codeR l3 0 = (⟨(num3R l3 0).1.1, (num3R l3 0).1.2.1, (num3R l3 0).1.2.2, (manyR instR (num3R l3 0).2.1 (num3R l3 0).2.2).1, (manyR padR (manyR instR (num3R l3 0).2.1 (num3R l3 0).2.2).2.1 (manyR instR (num3R l3 0).2.1 (num3R l3 0).2.2).2.2).1⟩, (manyR padR (manyR instR (num3R l3 0).2.1 (num3R l3 0).2.2).2.1 (manyR instR (num3R l3 0).2.1 (num3R l3 0).2.2).2.2).2) := rfl
      generalize num3R l3 0 = r at *
      obtain ⟨⟨g0, g1, g2⟩, l4, e4⟩ := r
      simp only at HG1 hR1 HL4 hgR
      have HR4 := Lib.hid hR1
      have cRb := HRb.cells1.1
      clear hc1 hR1 HLs HB3 HR3 HBe
      gi_wp2_with fail
      refine call_round0 ?_
      refine (count_r w0 V1 B l4 e4 _ rfl HB4.out hB HR4.out HL4.out).mono ?_
      have HL5 := Lib.hid (HL4.out.count e4)
      have HLe2 := Lib.hid (countR_le HL4.out e4)
      have hgR2 : codeR l3 0 = (⟨g0, g1, g2, (loopR instR (countR l4 e4).1.toNat (countR l4 e4).2.1 (countR l4 e4).2.2 []).1, (manyR padR (loopR instR (countR l4 e4).1.toNat (countR l4 e4).2.1 (countR l4 e4).2.2 []).2.1 (loopR instR (countR l4 e4).1.toNat (countR l4 e4).2.1 (countR l4 e4).2.2 []).2.2).1⟩, (manyR padR (loopR instR (countR l4 e4).1.toNat (countR l4 e4).2.1 (countR l4 e4).2.2 []).2.1 (loopR instR (countR l4 e4).1.toNat (countR l4 e4).2.1 (countR l4 e4).2.2 []).2.2).2) := hgR
      clear hgR
      generalize countR l4 e4 = r at *
      obtain ⟨n2, l5, e5⟩ := r
      simp only at hgR2 HL5 HLe2
      rintro e' V2' ⟨N2, P2, rfl, hN2, hP2, hR5, hc2, hN20, hP20⟩
      have hV1w : Wc.heap.size < V1.heap.size := HG1.lt
      have hV1b : B < V1.heap.size := by omega
      replace HC3 := Lib.hid (HC3.out.trans hc2 (fun q hq => .inl (.inl hq)))
      replace HRb := hc2.blk HRb (by omega)
      replace HG1 := hc2.blk HG1 (by omega)
      obtain ⟨fp, hfp⟩ : ∃ fp, fp = loopR instR n2.toNat l5 e5 [] := ⟨_, rfl⟩
      rw [← hfp] at hgR2
      have HFp := Lib.hid hfp
      have HgR := Lib.hid hgR2
      have hV2 : Wc.heap.size < V2'.heap.size := HG1.lt
      obtain ⟨rl, hrl⟩ := HRec.out
      have hlpW := (Array.getElem?_eq_some_iff.1 hrl).1
      have hlpB : lp ≠ B := fun e => by
        obtain ⟨c, t, hb⟩ := HBb.out
        rw [e, hb.out] at hrl
        cases hrl
      have HRl := Lib.hid hrl
      have hrl2 : V2'.heap[lp]? = some (.loop rl) := by
        refine (HC3.out.block lp hlpW ?_).trans hrl
        rintro (h | h)
        · exact hlpB h
        · omega
      clear hc2 HR4 cRb HL4 hfp hgR2 hrl
      gi_wp2_with fail
      refine range_cnt_in (B := B) hrl2 rfl (by decide) HLe2.out.1 rfl
        (fun k V => ∃ l e xs vx, (loopR instR (n2.toNat - k) l e xs = fp ∧ Byt l ∧ xs.length = k ∧ (k : Int) ≤ max n2 0 ∧ (e = 0 → n2 ≤ 1048576)) ∧ RdAt w0 V B l e ∧ Blk V w.heap.size #[.pointer (some ⟨B, 0, none⟩)] 60 ∧ Blk V Wc.heap.size #[.int .i64 g0, .int .i64 g1, .int .i64 g2, vx, .slice none 0 0] 40 ∧ RW k42 42 V Wc.heap.size vx xs ∧ Chg (fun k => k = B ∨ Wc.heap.size ≤ k) Wc V ∧ Blk V N2 #[.int .i64 n2] 2 ∧ Blk V P2 #[.pointer (some ⟨B, 0, none⟩)] 60)
        ?kI (fun k W h => ?kX) ?k0 (fun l k W K hi hk => ?kassign) ?kbody ?kdone
      case k0 => exact ⟨l5, e5, [], .slice none 0 0, ⟨HFp.out.symm, HL5.out, rfl, by omega, HLe2.out.2⟩, hR5, HRb, HG1, Kd.R_nil _ _ _ _ _, HC3.out, hN2, hP2⟩
      case kX =>
        obtain ⟨l, e, ps, vp, -, hr, -, -, -, -, hn, hp⟩ := h
        exact ⟨hn, hp, e, hr.err⟩
      case kassign =>
        gi_wp2
        exact hk
      case kI =>
        rintro k A C row ⟨l, e, ps, vp, hp, hr, hrb, hgb, hw, hc, hn, hpp⟩ hg hrow
        have hk := chg_noncell hg hrow
        have hk2 : Chg (fun q => V2'.heap.size ≤ q) A C := Chg.of_grown hg (fun q e => ((hrow q e).resolve_left (fun h => h)).1)
        exact ⟨l, e, ps, vp, hp, hr.noncell hk, hrb.noncell hk, hgb.noncell hk, hw.noncell hk, hc.trans hk2 (fun q hq => .inr (by omega)), hn.noncell hk, hpp.noncell hk⟩
      case kbody =>
        clear HRb HG1 hN2 hP2 hR5 HFp HL5 HgR
        rintro lq j V hlq hrec2 ⟨l6, e6, xs, vx6, ⟨hp, hl6, hpl, hjn, hen2⟩, hr6, hrb2, hgb, hw2, hc6, hn6, hpp6⟩ hlt2 hE2
        obtain rfl : e6 = 0 := hr6.err.one hE2
        have hnn2 := hen2 rfl
        have HP6 := Lib.hid hp
        have HL6 := Lib.hid hl6
        have HPl := Lib.hid hpl
        have HWp := Lib.hid hw2
        have HC6 := Lib.hid hc6
        have HJn := Lib.hid hlt2
        have HGb := Lib.hid hgb
        have hN6 := Lib.hid hn6
        have hP6 := Lib.hid hpp6
        have HRb2 := Lib.hid hrb2
        have HBb6 : Hid (∃ cs t, Blk V B cs t) := Lib.hid (by obtain ⟨_, _, hbk, _⟩ := hr6; exact ⟨_, _, hbk⟩)
        have HR6 := Lib.hid ((Chg.of_below (below_alloc (below_alloc (Below.refl V.heap.size V) (.cells #[.int .i64 0, .int .i64 0, .int .i64 0, .int .i64 0] 42)) (.cells #[.pointer (some ⟨V.heap.size, 0, none⟩)] 85)) (fun _ => False)).rd hr6 (fun h => h))
        have hBV : B < V.heap.size := by have := hc6.size; omega
        have hGV : Wc.heap.size < V.heap.size := hgb.lt
        have HBw6 := Lib.hid (HBw0.out.trans (hc6.below HBw0.out.size (by rintro q (h | h) <;> omega)))
        have q0 := fun o => cell_al hrb2.cells1.1 o
        clear hp hl6 hpl hw2 hc6 hr6 hE2 hrec2 hgb hn6 hpp6 hrb2 hlt2 hen2
        gi_wp2_with fail
        refine call_round0 ?_
        refine at_world (fun U => Blk U V.heap.size #[.int .i64 0, .int .i64 0, .int .i64 0, .int .i64 0] 42 ∧ Blk U (V.heap.size + 1) #[.pointer (some ⟨V.heap.size, 0, none⟩)] 85 ∧ Hid (Below V.heap.size V U) ∧ Hid (RdAt w0 U B l6 0))
          ⟨(Blk.new V _ _).alloc _, Blk.new' (by simp) _ _, Lib.hid (below_alloc (below_alloc (Below.refl _ _) _) _), HR6⟩ ?_
        clear HR6 q0
        rintro U0 ⟨HPb, HLs, HBe, HR6⟩
        have HC7 := Lib.hid (Chg.of_below HBe.out (fun k => k = B ∨ V.heap.size ≤ k))
        have HB7 := Lib.hid (HBw6.out.trans (HBe.out.mono (HBw6.out.size)))
        refine (numbers_r w0 U0 B V.heap.size (V.heap.size + 1) 42 1 [0] #[.pointer (some ⟨V.heap.size, 0, none⟩)] (fun i o h => by
          match i, h with
          | 0, h => simp at h; subst h; rfl
          | i + 1, h => simp at h) (by simp) l6 0 _ _ rfl (fun o ho => by simp at ho; subst ho; exact ⟨0, rfl⟩) (by omega) (by omega) (by omega) HB7.out hB (by omega) HR6.out HL6.out HPb HLs).mono ?_
        rintro e1 U1 ⟨⟨vy, rfl⟩, HPb1, hR7, hc7⟩
        replace HC7 := Lib.hid (HC7.out.trans hc7 (fun q hq => hq.elim (fun h => .inl (.inl h)) (fun h => .inr (by omega))))
        have HL7 := Lib.hid (HL6.out.num 0)
        change Blk U1 V.heap.size #[.int .i64 (numR l6 0).1, .int .i64 0, .int .i64 0, .int .i64 0] 42 at HPb1
        change RdAt w0 U1 B (numR l6 0).2.1 (numR l6 0).2.2 at hR7
        have hlo : loopR instR (n2.toNat - j) l6 0 xs = loopR instR (n2.toNat - (j + 1)) (instR l6 0).2.1 (instR l6 0).2.2 (xs ++ [(instR l6 0).1]) := by
          rw [show n2.toNat - j = (n2.toNat - (j + 1)) + 1 by have := HJn.out; omega]
          rfl
        rw [HP6.out] at hlo
        have hi : instR l6 0 = (⟨(numR l6 0).1, (num3R (numR l6 0).2.1 (numR l6 0).2.2).1.1, (num3R (numR l6 0).2.1 (numR l6 0).2.2).1.2.1, (num3R (numR l6 0).2.1 (numR l6 0).2.2).1.2.2⟩, (num3R (numR l6 0).2.1 (numR l6 0).2.2).2) := rfl
        rw [hi] at hlo
        unfold num3R at hlo
        simp only at hlo
        have HLo := Lib.hid hlo
        clear hlo hi
        generalize numR l6 0 = r at *
        obtain ⟨o0, l7, e7⟩ := r
        simp only at HPb1 hR7 HL7 HLo
        have HL8 := Lib.hid (HL7.out.num e7)
        have hna := fun (U : World) (hb : Below w0.heap.size w0 U) (hR : RdAt w0 U B l7 e7) => number_calls w0 U B l7 e7 hb hB hR HL7.out.len HL7.out.byte _ rfl
        have HNa := Lib.hid hna
        clear hna
        generalize numR l7 e7 = r at *
        obtain ⟨oa, l8, e8⟩ := r
        simp only at HL8 HLo
        have HL9 := Lib.hid (HL8.out.num e8)
        have hnb := fun (U : World) (hb : Below w0.heap.size w0 U) (hR : RdAt w0 U B l8 e8) => number_calls w0 U B l8 e8 hb hB hR HL8.out.len HL8.out.byte _ rfl
        have HNb := Lib.hid hnb
        clear hnb
        generalize numR l8 e8 = r at *
        obtain ⟨ob, l9, e9⟩ := r
        simp only at HL9 HLo
        have HL10 := Lib.hid (HL9.out.num e9)
        have hnc := fun (U : World) (hb : Below w0.heap.size w0 U) (hR : RdAt w0 U B l9 e9) => number_calls w0 U B l9 e9 hb hB hR HL9.out.len HL9.out.byte _ rfl
        have HNc := Lib.hid hnc
        clear hnc
        generalize numR l9 e9 = r at *
        obtain ⟨oc, l10, e10⟩ := r
        simp only at HL10 HLo
        have HU1 : Hid (InX w0 V U1 B w.heap.size l7 e7 o0) := Lib.hid ⟨HC7.out, hR7, HPb1, HC7.out.blk HRb2.out (by rintro (h | h) <;> omega)⟩
        have q1 := HU1.out.rb.cells1.1
        have hmix : Try.prog.follows .mixedOrders = true := by kernel_rfl
        clear hc7 hR7 HLs HB7 HR6 HBe HPb HPb1 HC7
        gi_wp2_with fail
        gi_region_with_o (first
          | (refine call_round0 ?_; refine at_world (fun X => InX w0 V X B w.heap.size l7 e7 o0) (by first | exact HU1.out | exact HU1.out.drew) ?_; rintro X1 HX1; refine (HNa.out X1 (HX1.bel HBw6.out hB) HX1.r).mono ?_; rintro e1' Y1 ⟨rfl, hr1, hg1⟩; have HU2 := Lib.hid (HX1.on hg1 hr1 hBV (by omega)); clear HU1 HX1 hg1 hr1; have q2 := HU2.out.rb.cells1.1)
          | (refine call_round0 ?_; refine at_world (fun X => InX w0 V X B w.heap.size l8 e8 o0) (by first | exact HU2.out | exact HU2.out.drew) ?_; rintro X2 HX2; refine (HNb.out X2 (HX2.bel HBw6.out hB) HX2.r).mono ?_; rintro e2' Y2 ⟨rfl, hr2, hg2⟩; have HU3 := Lib.hid (HX2.on hg2 hr2 hBV (by omega)); clear HU2 HX2 hg2 hr2; have q3 := HU3.out.rb.cells1.1)
          | (refine call_round0 ?_; refine at_world (fun X => InX w0 V X B w.heap.size l9 e9 o0) (by first | exact HU3.out | exact HU3.out.drew) ?_; rintro X3 HX3; refine (HNc.out X3 (HX3.bel HBw6.out hB) HX3.r).mono ?_; rintro e3' Y3 ⟨rfl, hr3, hg3⟩; have HU4 := Lib.hid (HX3.on hg3 hr3 hBV (by omega)); clear HU3 HX3 hg3 hr3; have q4 := HU4.out.rb.cells1.1; obtain ⟨⟨x0, x1, x2, x3⟩, y0, y1, y2, y3⟩ := HU4.out.x.cells4))
        all_goals
          have hgeV : V.heap.size ≤ V.heap.size := Nat.le_refl _
          have hx5 : Blk (((Y3.setCell ⟨V.heap.size, 1, none⟩ (.int .i64 oa)).setCell ⟨V.heap.size, 2, none⟩ (.int .i64 ob)).setCell ⟨V.heap.size, 3, none⟩ (.int .i64 oc)) V.heap.size #[.int .i64 o0, .int .i64 oa, .int .i64 ob, .int .i64 oc] 42 := ((HU4.out.x.set 1 _).set 2 _).set 3 _
          have hc5 := ((HU4.out.c.set (p := ⟨V.heap.size, 1, none⟩) (.inr hgeV) (.int .i64 oa)).set (p := ⟨V.heap.size, 2, none⟩) (.inr hgeV) (.int .i64 ob)).set (p := ⟨V.heap.size, 3, none⟩) (.inr hgeV) (.int .i64 oc)
          have hneV : V.heap.size ≠ B := by omega
          have hr5 := ((((Chg.refl (fun q => q ≠ B) Y3).set (p := ⟨V.heap.size, 1, none⟩) hneV (.int .i64 oa)).set (p := ⟨V.heap.size, 2, none⟩) hneV (.int .i64 ob)).set (p := ⟨V.heap.size, 3, none⟩) hneV (.int .i64 oc)).rd HU4.out.r (fun h => h rfl)
          clear x0 x1 x2 x3 y0 y1 y2 y3 q4
          clear HU4
          generalize (((Y3.setCell ⟨V.heap.size, 1, none⟩ (.int .i64 oa)).setCell ⟨V.heap.size, 2, none⟩ (.int .i64 ob)).setCell ⟨V.heap.size, 3, none⟩ (.int .i64 oc)) = U5 at *
          have HC7 := Lib.hid hc5
          have HR7 := Lib.hid hr5
          have hw7 := HWp.out.chg hc5 (fun q hq hlt => hq.elim (fun h => .inl (by omega)) (fun h => absurd h (by omega)))
          have HW7 := Lib.hid hw7
          have hgb7 := hc5.blk HGb.out (by rintro (h | h) <;> omega)
          obtain ⟨Av, cv, rfl⟩ := row_slice hw7
          obtain ⟨⟨x0, x1, x2, x3⟩, -⟩ := hx5.cells4
          obtain ⟨⟨-, -, -, g3, -⟩, -⟩ := hgb7.cells5
          have HGb7 := Lib.hid hgb7
          clear hw7 hgb7 hx5 hc5 hr5
          gi_wp2_with (gi_at_builtin; refine R_append_in k42 Wc.heap.size rfl (.tmp 64) (.tmp 66) 37 42 (.agg #[.int .i64 0, .int .i64 0, .int .i64 0, .int .i64 0]) 32 rfl Try.underlying37 info42 rfl (by decide) (by omega) (.slice Av xs.length cv) xs ⟨o0, oa, ob, oc⟩ [.int .i64 o0, .int .i64 oa, .int .i64 ob, .int .i64 oc] (fun _ => True) (fun _ => False) rfl rfl (k42_mkM _ _ _ ⟨o0, oa, ob, oc⟩) (fun _ h => h.elim) (fun _ _ => trivial) HW7.out (by have := HC7.out.size; omega) (by have := HPl.out; have := HJn.out; omega) ?_; intro v1 w1 hR1 hG1 hat1; have hgb8 := HGb7.out.grown hG1 (RW.apart HW7.out HGb7.out (by decide)); obtain ⟨ps2, hps2⟩ : ∃ ps2, ps2 = xs ++ [(⟨o0, oa, ob, oc⟩ : S42)] := ⟨_, rfl⟩; rw [← hps2] at hR1; have HPs2 := Lib.hid hps2; clear hps2; obtain ⟨A8, c8, rfl⟩ := row_slice hR1; have s3 := hgb8.cell 3; have f3 := hgb8.frozen 3; have HR8 := Lib.hid hR1; have HG8 := Lib.hid hG1; have HGb8 := Lib.hid hgb8; clear hat1 hR1 hG1 hgb8 x0 x1 x2 x3 g3)
          have hne8 := RW.apart HW7.out HGb7.out (by decide)
          have hC8 : Chg (fun k => k = B ∨ k = Wc.heap.size ∨ V.heap.size ≤ k ∨ (Value.slice Av xs.length cv).ownBlock = some k) V w1 := (HC7.out.mono (fun q _ h => h.elim .inl (fun h => .inr (.inr (.inl h))))).on (Chg.of_grown HG8.out (fun q e => .inr (.inr (.inr e))))
          have hC9 := hC8.set (p := ⟨Wc.heap.size, 3, none⟩) (.inr (.inl rfl)) (.slice A8 ps2.length c8)
          have hown : ∀ k, (Value.slice Av xs.length cv).ownBlock = some k → Wc.heap.size ≤ k ∧ k < V.heap.size ∧ ∃ cs, Blk V k cs 42 := fun k hk => HWp.out.own hk
          have hC10 : Chg (fun q => q ≠ B) U5 (w1.setCell ⟨Wc.heap.size, 3, none⟩ (.slice A8 ps2.length c8)) := (Chg.of_grown HG8.out (fun q e => by have := (hown q e).1; omega)).set (p := ⟨Wc.heap.size, 3, none⟩) (show Wc.heap.size ≠ B by omega) _
          refine ⟨hC9.from _ ?_, l10, e10, ps2, _, ⟨HLo.out.symm ▸ ?_, HL10.out, ?_, ?_, fun _ => hnn2⟩, hC10.rd HR7.out (fun h => h rfl), hC9.blk HRb2.out ?_, HGb8.out.set 3 _, RW.chg HR8.out (Chg.of_grown (S := fun q => q = Wc.heap.size) (grown_set w1 ⟨Wc.heap.size, 3, none⟩ _) (fun q e => by cases e; rfl)) ?_, HC6.out.trans hC9 ?_, hC9.blk hN6.out ?_, hC9.blk hP6.out ?_⟩
          · rintro q (h | h | h | h) hlt
            · subst h
              exact HBb6.out
            · subst h
              exact ⟨_, _, HGb.out⟩
            · omega
            · obtain ⟨_, _, cs, hb⟩ := hown q h
              exact ⟨cs, _, hb⟩
          · rw [HPs2.out]
          · rw [HPs2.out]
            simp
            exact HPl.out
          · have := HJn.out
            omega
          · rintro (h | h | h | h)
            · omega
            · omega
            · omega
            · have := (hown _ h).1
              omega
          · intro q hq _
            subst hq
            exact .inr (fun q hq cells e => by
              rw [HGb8.out.out] at e
              cases e
              exact absurd hq (by rw [E42]; decide))
          · rintro q (h | h | h | h)
            · exact .inl (.inl h)
            · exact .inr (by omega)
            · exact .inr (by omega)
            · exact .inr (hown q h).1
          · have := hN6.out.lt
            rintro (h | h | h | h)
            · omega
            · omega
            · omega
            · exact RW.apart HWp.out hN6.out (by decide) h
          · have := hP6.out.lt
            rintro (h | h | h | h)
            · omega
            · omega
            · omega
            · exact RW.apart HWp.out hP6.out (by decide) h
      case kdone =>
        clear HRb HG1 hN2 hP2 hR5 HFp HL5 hN20 hP20
        rintro j V ⟨l6, e6, xs, vx6, ⟨hp, hl6, hpl, hjn, hen2⟩, hr6, hrb2, hgb, hw2, hc6, -, -⟩ hstop
        have hfp : fp = (xs, l6, e6) := by
          rcases hstop with h | ⟨e', h0, he'⟩
          · rw [← hp, show n2.toNat - j = 0 by omega]
            rfl
          · obtain rfl := hr6.err.one he'
            rw [← hp, loopR_err _ _ _ _ _ h0]
        have hgR := HgR.out
        rw [hfp] at hgR
        have HL6 := Lib.hid hl6
        have HWx := Lib.hid hw2
        have HC6 := Lib.hid hc6
        have HR6 := Lib.hid hr6
        have HGb6 := Lib.hid hgb
        have HRb6 := Lib.hid hrb2
        have cRb := hrb2.cells1.1
        have HB6 := Lib.hid (HBw0.out.trans (hc6.below HBw0.out.size (by rintro q (h | h) <;> omega)))
        clear hp hl6 hpl hjn hen2 hr6 hrb2 hgb hw2 hc6 hstop hfp HgR HLe2 HC3 HB4
        clear hrl2 hV2 hV1w hV1b
        gi_wp2_with fail
        refine call_round0 ?_
        refine (count_r w0 V B l6 e6 _ rfl HB6.out hB HR6.out HL6.out).mono ?_
        have HL7 := Lib.hid (HL6.out.count e6)
        have HLe7 := Lib.hid (countR_le HL6.out e6)
        have hgR3 : codeR l3 0 = (⟨g0, g1, g2, xs, (loopR padR (countR l6 e6).1.toNat (countR l6 e6).2.1 (countR l6 e6).2.2 []).1⟩, (loopR padR (countR l6 e6).1.toNat (countR l6 e6).2.1 (countR l6 e6).2.2 []).2) := hgR
        clear hgR
        generalize countR l6 e6 = r at *
        obtain ⟨n7, l7, e7⟩ := r
        simp only at hgR3 HL7 HLe7
        rintro e' V7 ⟨N7, P7, rfl, hN7, hP7, hR7, hc7, hN70, hP70⟩
        have hVw : Wc.heap.size < V.heap.size := HGb6.out.lt
        have hVb : B < V.heap.size := by omega
        have HC7 := Lib.hid (HC6.out.trans hc7 (fun q hq => .inl (.inl hq)))
        have hrb7 := hc7.blk HRb6.out (by omega)
        have hgb7 := hc7.blk HGb6.out (by omega)
        have hwx7 : RW k42 42 V7 Wc.heap.size vx6 xs := HWx.out.chg hc7 (fun q hq _ => .inl (by omega))
        obtain ⟨fq, hfq⟩ : ∃ fq, fq = loopR padR n7.toNat l7 e7 [] := ⟨_, rfl⟩
        rw [← hfq] at hgR3
        have HFq := Lib.hid hfq
        have HgR := Lib.hid hgR3
        have hV7 : Wc.heap.size < V7.heap.size := hgb7.lt
        have hrl7 : V7.heap[lp]? = some (.loop rl) := by
          refine (HC7.out.block lp hlpW ?_).trans HRl.out
          rintro (h | h)
          · exact hlpB h
          · omega
        clear hc7 HR6 HRb6 HGb6 cRb HL6 hfq hgR3 HWx HC6 HB6
        gi_wp2_with fail
        refine range_cnt_in (B := B) hrl7 rfl (by decide) HLe7.out.1 rfl
          (fun k V => ∃ l e ps vp, (loopR padR (n7.toNat - k) l e ps = fq ∧ Byt l ∧ ps.length = k ∧ (k : Int) ≤ max n7 0 ∧ (e = 0 → n7 ≤ 1048576)) ∧ RdAt w0 V B l e ∧ Blk V w.heap.size #[.pointer (some ⟨B, 0, none⟩)] 60 ∧ Blk V Wc.heap.size #[.int .i64 g0, .int .i64 g1, .int .i64 g2, vx6, vp] 40 ∧ RW k66 66 V Wc.heap.size vp ps ∧ RW k42 42 V Wc.heap.size vx6 xs ∧ Chg (fun k => k = B ∨ Wc.heap.size ≤ k) Wc V ∧ Blk V N7 #[.int .i64 n7] 2 ∧ Blk V P7 #[.pointer (some ⟨B, 0, none⟩)] 60)
          ?mI (fun k W h => ?mX) ?m0 (fun l k W K hi hk => ?massign) ?mbody ?mdone
        case m0 => exact ⟨l7, e7, [], .slice none 0 0, ⟨HFq.out.symm, HL7.out, rfl, by omega, HLe7.out.2⟩, hR7, hrb7, hgb7, Kd.R_nil _ _ _ _ _, hwx7, HC7.out, hN7, hP7⟩
        case mX =>
          obtain ⟨l, e, ps, vp, -, hr, -, -, -, -, -, hn, hp⟩ := h
          exact ⟨hn, hp, e, hr.err⟩
        case massign =>
          gi_wp2
          exact hk
        case mI =>
          rintro k A C row ⟨l, e, ps, vp, hp, hr, hrb, hgb, hw, hwx, hc, hn, hpp⟩ hg hrow
          have hk := chg_noncell hg hrow
          have hk2 : Chg (fun q => V7.heap.size ≤ q) A C := Chg.of_grown hg (fun q e => ((hrow q e).resolve_left (fun h => h)).1)
          exact ⟨l, e, ps, vp, hp, hr.noncell hk, hrb.noncell hk, hgb.noncell hk, hw.noncell hk, hwx.noncell hk, hc.trans hk2 (fun q hq => .inr (by omega)), hn.noncell hk, hpp.noncell hk⟩
        case mbody =>
          clear hrb7 hgb7 hN7 hP7 hR7 HFq HL7 HgR hwx7
          rintro lq j V hlq hrec2 ⟨l6, e6, ps, vp, ⟨hp, hl6, hpl, hjn, hen2⟩, hr6, hrb2, hgb, hw2, hwx2, hc6, hn6, hpp6⟩ hlt2 hE2
          obtain rfl : e6 = 0 := hr6.err.one hE2
          have hnn2 := hen2 rfl
          have HP6 := Lib.hid hp
          have HL6 := Lib.hid hl6
          have HPl := Lib.hid hpl
          have HWp := Lib.hid hw2
          have HWx := Lib.hid hwx2
          have HC6 := Lib.hid hc6
          have HJn := Lib.hid hlt2
          have HGb := Lib.hid hgb
          have hN6 := Lib.hid hn6
          have hP6 := Lib.hid hpp6
          have HRb2 := Lib.hid hrb2
          have HBb6 : Hid (∃ cs t, Blk V B cs t) := Lib.hid (by obtain ⟨_, _, hbk, _⟩ := hr6; exact ⟨_, _, hbk⟩)
          have HR6 := Lib.hid ((Chg.of_below (below_alloc (below_alloc (Below.refl V.heap.size V) (.cells #[.int .i64 0, .int .i64 0, .int .i64 0] 66)) (.cells #[.pointer (some ⟨V.heap.size, 0, none⟩), .pointer (some ⟨V.heap.size, 1, none⟩), .pointer (some ⟨V.heap.size, 2, none⟩)] 85)) (fun _ => False)).rd hr6 (fun h => h))
          have hBV : B < V.heap.size := by have := hc6.size; omega
          have hGV : Wc.heap.size < V.heap.size := hgb.lt
          have HBw6 := Lib.hid (HBw0.out.trans (hc6.below HBw0.out.size (by rintro q (h | h) <;> omega)))
          have q0 := fun o => cell_al hrb2.cells1.1 o
          clear hp hl6 hpl hw2 hwx2 hc6 hr6 hE2 hrec2 hgb hn6 hpp6 hrb2 hlt2 hen2
          gi_wp2_with fail
          refine call_round0 ?_
          refine at_world (fun U => Blk U V.heap.size #[.int .i64 0, .int .i64 0, .int .i64 0] 66 ∧ Blk U (V.heap.size + 1) #[.pointer (some ⟨V.heap.size, 0, none⟩), .pointer (some ⟨V.heap.size, 1, none⟩), .pointer (some ⟨V.heap.size, 2, none⟩)] 85 ∧ Hid (Below V.heap.size V U) ∧ Hid (RdAt w0 U B l6 0))
            ⟨(Blk.new V _ _).alloc _, Blk.new' (by simp) _ _, Lib.hid (below_alloc (below_alloc (Below.refl _ _) _) _), HR6⟩ ?_
          clear HR6 q0
          rintro U0 ⟨HPb, HLs, HBe, HR6⟩
          have HC7 := Lib.hid (Chg.of_below HBe.out (fun k => k = B ∨ V.heap.size ≤ k))
          have HB7 := Lib.hid (HBw6.out.trans (HBe.out.mono (HBw6.out.size)))
          refine (numbers_r w0 U0 B V.heap.size (V.heap.size + 1) 66 3 [0, 1, 2] #[.pointer (some ⟨V.heap.size, 0, none⟩), .pointer (some ⟨V.heap.size, 1, none⟩), .pointer (some ⟨V.heap.size, 2, none⟩)] (fun i o h => by
            match i, h with
            | 0, h => simp at h; subst h; rfl
            | 1, h => simp at h; subst h; rfl
            | 2, h => simp at h; subst h; rfl
            | i + 3, h => simp at h) (by simp) l6 0 _ _ rfl (fun o ho => by simp at ho; rcases ho with rfl | rfl | rfl <;> exact ⟨0, rfl⟩) (by omega) (by omega) (by omega) HB7.out hB (by omega) HR6.out HL6.out HPb HLs).mono ?_
          rintro e1 U1 ⟨⟨vy, rfl⟩, HPb1, hR7, hc7⟩
          replace HC7 := Lib.hid (HC7.out.trans hc7 (fun q hq => hq.elim (fun h => .inl (.inl h)) (fun h => .inr (by omega))))
          have HL7 := Lib.hid (HL6.out.pad 0)
          change Blk U1 V.heap.size #[.int .i64 (padR l6 0).1.f0, .int .i64 (padR l6 0).1.f1, .int .i64 (padR l6 0).1.f2] 66 at HPb1
          change RdAt w0 U1 B (padR l6 0).2.1 (padR l6 0).2.2 at hR7
          have hlo : loopR padR (n7.toNat - j) l6 0 ps = loopR padR (n7.toNat - (j + 1)) (padR l6 0).2.1 (padR l6 0).2.2 (ps ++ [(padR l6 0).1]) := by
            rw [show n7.toNat - j = (n7.toNat - (j + 1)) + 1 by have := HJn.out; omega]
            rfl
          rw [HP6.out] at hlo
          have HLo := Lib.hid hlo
          generalize padR l6 0 = r at *
          obtain ⟨pt, l7, e7⟩ := r
          simp only at HPb1 hR7 HL7 HLo
          have hw7 := HWp.out.chg HC7.out (fun q hq hlt => hq.elim (fun h => .inl (by omega)) (fun h => absurd h (by omega)))
          have HR7 := Lib.hid hR7
          have HW7 := Lib.hid hw7
          have hgb7 := HC7.out.blk HGb.out (by rintro (h | h) <;> omega)
          obtain ⟨Av, cv, rfl⟩ := row_slice hw7
          obtain ⟨⟨x0, x1, x2⟩, -⟩ := HPb1.cells3
          obtain ⟨⟨-, -, -, -, g3⟩, -⟩ := hgb7.cells5
          have HGb7 := Lib.hid hgb7
          clear hc7 hR7 HLs HB7 HR6 HBe hw7 hgb7 hlo HPb HPb1
          gi_wp2_with (gi_at_builtin; refine R_append_in k66 Wc.heap.size rfl (.tmp 78) (.tmp 80) 38 66 (.agg #[.int .i64 0, .int .i64 0, .int .i64 0]) 24 rfl Try.underlying38 info66 rfl (by decide) (by omega) (.slice Av ps.length cv) ps pt [.int .i64 pt.f0, .int .i64 pt.f1, .int .i64 pt.f2] (fun _ => True) (fun _ => False) rfl rfl (k66_mkM _ _ _ pt) (fun _ h => h.elim) (fun _ _ => trivial) HW7.out (by have := HC7.out.size; omega) (by have := HPl.out; have := HJn.out; omega) ?_; intro v1 w1 hR1 hG1 hat1; have hgb8 := HGb7.out.grown hG1 (RW.apart HW7.out HGb7.out (by decide)); obtain ⟨ps2, hps2⟩ : ∃ ps2, ps2 = ps ++ [pt] := ⟨_, rfl⟩; rw [← hps2] at hR1; have HPs2 := Lib.hid hps2; clear hps2; obtain ⟨A8, c8, rfl⟩ := row_slice hR1; have s3 := hgb8.cell 4; have f3 := hgb8.frozen 4; have HR8 := Lib.hid hR1; have HG8 := Lib.hid hG1; have HGb8 := Lib.hid hgb8; clear hat1 hR1 hG1 hgb8 x0 x1 x2 g3)
          have hne8 := RW.apart HW7.out HGb7.out (by decide)
          have hC8 : Chg (fun k => k = B ∨ k = Wc.heap.size ∨ V.heap.size ≤ k ∨ (Value.slice Av ps.length cv).ownBlock = some k) V w1 := (HC7.out.mono (fun q _ h => h.elim .inl (fun h => .inr (.inr (.inl h))))).on (Chg.of_grown HG8.out (fun q e => .inr (.inr (.inr e))))
          have hC9 := hC8.set (p := ⟨Wc.heap.size, 4, none⟩) (.inr (.inl rfl)) (.slice A8 ps2.length c8)
          have hown : ∀ k, (Value.slice Av ps.length cv).ownBlock = some k → Wc.heap.size ≤ k ∧ k < V.heap.size ∧ ∃ cs, Blk V k cs 66 := fun k hk => HWp.out.own hk
          have hC10 : Chg (fun q => q ≠ B) U1 (w1.setCell ⟨Wc.heap.size, 4, none⟩ (.slice A8 ps2.length c8)) := (Chg.of_grown HG8.out (fun q e => by have := (hown q e).1; omega)).set (p := ⟨Wc.heap.size, 4, none⟩) (show Wc.heap.size ≠ B by omega) _
          refine ⟨hC9.from _ ?_, l7, e7, ps2, _, ⟨HLo.out.symm ▸ ?_, HL7.out, ?_, ?_, fun _ => hnn2⟩, hC10.rd HR7.out (fun h => h rfl), hC9.blk HRb2.out ?_, HGb8.out.set 4 _, RW.chg HR8.out (Chg.of_grown (S := fun q => q = Wc.heap.size) (grown_set w1 ⟨Wc.heap.size, 4, none⟩ _) (fun q e => by cases e; rfl)) ?_, HWx.out.chg hC9 ?_, HC6.out.trans hC9 ?_, hC9.blk hN6.out ?_, hC9.blk hP6.out ?_⟩
          · rintro q (h | h | h | h) hlt
            · subst h
              exact HBb6.out
            · subst h
              exact ⟨_, _, HGb.out⟩
            · omega
            · obtain ⟨_, _, cs, hb⟩ := hown q h
              exact ⟨cs, _, hb⟩
          · rw [HPs2.out]
          · rw [HPs2.out]
            simp
            exact HPl.out
          · have := HJn.out
            omega
          · rintro (h | h | h | h)
            · omega
            · omega
            · omega
            · have := (hown _ h).1
              omega
          · intro q hq _
            subst hq
            exact .inr (fun q hq cells e => by
              rw [HGb8.out.out] at e
              cases e
              exact absurd hq (by rw [E66]; decide))
          · rintro q (h | h | h | h) hlt
            · exact .inl (by omega)
            · subst h
              exact .inr (fun q hq cells e => by
                rw [HGb.out.out] at e
                cases e
                exact absurd hq (by rw [E42]; decide))
            · omega
            · obtain ⟨_, _, cs, hb⟩ := hown q h
              exact .inr (fun q hq cells e => by
                rw [hb.out] at e
                cases e
                exact absurd hq (by rw [E42]; decide))
          · rintro q (h | h | h | h)
            · exact .inl (.inl h)
            · exact .inr (by omega)
            · exact .inr (by omega)
            · exact .inr (hown q h).1
          · have := hN6.out.lt
            rintro (h | h | h | h)
            · omega
            · omega
            · omega
            · exact RW.apart HWp.out hN6.out (by decide) h
          · have := hP6.out.lt
            rintro (h | h | h | h)
            · omega
            · omega
            · omega
            · exact RW.apart HWp.out hP6.out (by decide) h
        case mdone =>
          clear hrb7 hgb7 hN7 hP7 hR7 HFq HL7 hwx7
          rintro j V ⟨l6, e6, ps, vp, ⟨hp, hl6, hpl, hjn, hen2⟩, hr6, hrb2, hgb, hw2, hwx2, hc6, -, -⟩ hstop
          have hfp : fq = (ps, l6, e6) := by
            rcases hstop with h | ⟨e', h0, he'⟩
            · rw [← hp, show n7.toNat - j = 0 by omega]
              rfl
            · obtain rfl := hr6.err.one he'
              rw [← hp, loopR_err _ _ _ _ _ h0]
          have hgR := HgR.out
          rw [hfp] at hgR
          have hlo : loopR codeR (n4.toNat - k) l3 0 cs = loopR codeR (n4.toNat - (k + 1)) l6 e6 (cs ++ [⟨g0, g1, g2, xs, ps⟩]) := by
            rw [show n4.toNat - k = (n4.toNat - (k + 1)) + 1 by omega]
            show loopR codeR (n4.toNat - (k + 1)) (codeR l3 0).2.1 (codeR l3 0).2.2 (cs ++ [(codeR l3 0).1]) = _
            rw [hgR]
          rw [HP.out] at hlo
          have HLo := Lib.hid hlo
          have HL6' := Lib.hid hl6
          have hmb6 := hc6.blk hmb (by rintro (h | h) <;> omega)
          have hw6 : RW k40 40 V (w.heap.size + 3) vc cs := HWs.out.chg hc6 (fun q hq hlt => hq.elim (fun h => .inl (by omega)) (fun h => absurd h (by omega)))
          have HE6 : Hid (k66.R 66 V (w.heap.size + 3) (fun k => ∃ q, q ∈ [42, 66] ∧ ∃ cells, V.heap[k]? = some (.cells cells q (0, 0))) vp ps) := Lib.hid (Kd.R_mono (Kd.R_lower hw2.in (by omega)) (fun k hk => by
            obtain ⟨q, hq, h⟩ := hk
            rw [E66] at hq
            exact ⟨q, by simp at hq ⊢; exact .inr hq, h⟩))
          have HE5 : Hid (k42.R 42 V (w.heap.size + 3) (fun k => ∃ q, q ∈ [42, 66] ∧ ∃ cells, V.heap[k]? = some (.cells cells q (0, 0))) vx6 xs) := Lib.hid (Kd.R_mono (Kd.R_lower hwx2.in (by omega)) (fun k hk => by
            obtain ⟨q, hq, h⟩ := hk
            rw [E42] at hq
            exact ⟨q, by simp at hq ⊢; exact .inl hq, h⟩))
          have hw48 : RW k48 48 V (w.heap.size + 3) vg gs := HWg.out.chg hc6 (fun q hq hlt => hq.elim (fun h => .inl (by omega)) (fun h => absurd h (by omega)))
          have HW48 := Lib.hid hw48
          obtain ⟨Av, cv, rfl⟩ := row_slice hw2
          obtain ⟨Ax, cx2, rfl⟩ := row_slice hwx2
          obtain ⟨Ag, cg, rfl⟩ := row_slice hw6
          obtain ⟨⟨-, m0, -⟩, -⟩ := hmb6.cells3
          obtain ⟨⟨x0, x1, x2, x3, x4⟩, -⟩ := hgb.cells5
          have HR6 := Lib.hid hr6
          have HC6 := Lib.hid hc6
          have HMb6 := Lib.hid hmb6
          have HW6 := Lib.hid hw6
          have HRb6 := Lib.hid (HCw.out)
          have hok : ∀ q, (∃ t, t ∈ [42, 66] ∧ ∃ cells, V.heap[q]? = some (.cells cells t (0, 0))) → True ∧ some q ≠ (Value.slice Ag cs.length cg).ownBlock := fun q hq => ⟨trivial, fun e => by
            obtain ⟨t, ht, cells, hcl⟩ := hq
            obtain ⟨_, _, cs', hb⟩ := HW6.out.own e.symm
            rw [hb.out] at hcl
            cases hcl
            exact absurd ht (by decide)⟩
          have HOk := Lib.hid hok
          clear hstop hfp hgR hlo hl6 hp hmb6 hw6 hw2 hwx2 hw48 hgb hr6 hc6 hok hpl hjn hen2
          gi_wp2_with (gi_at_builtin; refine R_append_in k40 (w.heap.size + 3) rfl (.tmp 84) (.tmp 86) 23 40 (.agg #[.int .i64 0, .int .i64 0, .int .i64 0, .slice none 0 0, .slice none 0 0]) 72 rfl Try.underlying23 info40 rfl (by decide) (by omega) (.slice Ag cs.length cg) cs ⟨g0, g1, g2, xs, ps⟩ [.int .i64 g0, .int .i64 g1, .int .i64 g2, .slice Ax xs.length cx2, .slice Av ps.length cv] (fun _ => True) _ rfl rfl (k40_mkM _ _ _ ⟨g0, g1, g2, xs, ps⟩ HE5.out HE6.out) HOk.out (fun _ _ => trivial) HW6.out (by have := HC6.out.size; omega) (by have := HGl.out; omega) ?_; intro v1 w1 hR1 hG1 hat1; have hmb8 := HMb6.out.grown hG1 (RW.apart HW6.out HMb6.out (by decide)); obtain ⟨cs2, hcs2⟩ : ∃ cs2, cs2 = cs ++ [(⟨g0, g1, g2, xs, ps⟩ : S40)] := ⟨_, rfl⟩; rw [← hcs2] at hR1; have HGs2 := Lib.hid hcs2; clear hcs2; obtain ⟨A8, c8, rfl⟩ := row_slice hR1; have s3 := hmb8.cell 1; have f3 := hmb8.frozen 1; have HR8 := Lib.hid hR1; have HG8 := Lib.hid hG1; have HMb8 := Lib.hid hmb8; clear hat1 hR1 hG1 hmb8 x0 x1 x2 x3 x4 m0)
          have hown : ∀ k, (Value.slice Ag cs.length cg).ownBlock = some k → w.heap.size + 3 ≤ k ∧ k < Wc.heap.size ∧ ∃ c', Blk Wc k c' 40 := fun k hk => HWs.out.own hk
          have hC8 : Chg (fun q => q = B ∨ q = Mb ∨ Wc.heap.size ≤ q ∨ (Value.slice Ag cs.length cg).ownBlock = some q) Wc w1 := (HC6.out.mono (fun q _ h => h.elim .inl (fun h => .inr (.inr (.inl h))))).on (Chg.of_grown HG8.out (fun q e => .inr (.inr (.inr e))))
          have hC9 := hC8.set (p := ⟨Mb, 1, none⟩) (.inr (.inl rfl)) (.slice A8 cs2.length c8)
          have hC10 : Chg (fun q => q ≠ B) V (w1.setCell ⟨Mb, 1, none⟩ (.slice A8 cs2.length c8)) := (Chg.of_grown HG8.out (fun q e => by have := (hown q e).1; omega)).set (p := ⟨Mb, 1, none⟩) (show Mb ≠ B by omega) _
          refine ⟨hC9.from _ ?_, l6, e6, cs2, _, ⟨HLo.out.symm ▸ ?_, HL6'.out, ?_, ?_, fun _ => hnn⟩, hC10.rd HR6.out (fun h => h rfl), hC9.blk hrb ?_, hC9.blk hres ?_, HMb8.out.set 1 _, RW.chg HWg.out hC9 ?_, RW.chg HR8.out (Chg.of_grown (S := fun q => q = Mb) (grown_set w1 ⟨Mb, 1, none⟩ _) (fun q e => by cases e; rfl)) (fun q hq _ => .inl (by omega)), HCw.out.trans hC9 ?_, hC9.blk hn ?_, hC9.blk hpp ?_, ?_⟩
          · rintro q (h | h | h | h) hlt
            · subst h
              exact HBb.out
            · subst h
              exact ⟨_, _, hmb⟩
            · omega
            · obtain ⟨_, _, c', hb⟩ := hown q h
              exact ⟨c', _, hb⟩
          · rw [HGs2.out]
          · rw [HGs2.out]
            simp
            exact HGl.out
          · omega
          · rintro (h | h | h | h)
            · omega
            · omega
            · omega
            · have := (hown _ h).1
              omega
          · rintro (h | h | h | h)
            · omega
            · omega
            · omega
            · have := (hown _ h).1
              omega
          · rintro q (h | h | h | h) hlt
            · exact .inl (by omega)
            · exact .inl (by omega)
            · omega
            · obtain ⟨_, _, c', hb⟩ := hown q h
              exact .inr (fun q hq cells e => by
                rw [hb.out] at e
                cases e
                exact absurd hq (by rw [E48]; decide))
          · rintro q (h | h | h | h)
            · exact .inl (.inl h)
            · exact .inr (by omega)
            · exact .inr (by have := HCw.out.size; omega)
            · exact .inr (by have := (hown q h).1; omega)
          · have := hn.lt
            rintro (h | h | h | h)
            · omega
            · omega
            · omega
            · exact RW.apart HWs.out hn (by decide) h
          · have := hpp.lt
            rintro (h | h | h | h)
            · omega
            · omega
            · omega
            · exact RW.apart HWs.out hpp (by decide) h
          · refine (hC9.block D (Array.getElem?_eq_some_iff.1 HKd.out).1 ?_).trans HKd.out
            rintro (h | h | h | h)
            · obtain ⟨c', t', hb⟩ := HBb.out
              have h1 := hb.out
              rw [← h, HKd.out] at h1
              cases h1
            · have h1 := hmb.out
              rw [← h, HKd.out] at h1
              cases h1
            · have := (Array.getElem?_eq_some_iff.1 HKd.out).1
              omega
            · obtain ⟨_, _, c', hb⟩ := hown _ h
              have h1 := hb.out
              rw [HKd.out] at h1
              cases h1
    case gdone =>
      clear hrb4 hres4 hmb4 hN4 hP4 hR4 HFc HL4 hw4 hK4 HC4
      rintro D2 k U hD2 ⟨l5, e5, cs, vc, ⟨hp, hl5, hcl, hkn, hen⟩, hr5, hrb, hres, hmb, hw, hwc, hc, -, -, hK1⟩ hstop hK2
      have hfc : fc = (cs, l5, e5) := by
        rcases hstop with h | ⟨e', h0, he'⟩
        · rw [← hp, show n4.toNat - k = 0 by omega]
          rfl
        · obtain rfl := hr5.err.one he'
          rw [← hp, loopR_err _ _ _ _ _ h0]
      rw [hfc] at HF3
      have HR5 := Lib.hid hr5
      obtain ⟨Ag, cg, rfl⟩ := row_slice hw
      obtain ⟨Ac, cc, rfl⟩ := row_slice hwc
      have HW5 := Lib.hid hw
      have HW6 := Lib.hid hwc
      have HC5 := Lib.hid hc
      have HRes5 := Lib.hid hres
      have HK1 := Lib.hid hK1
      have HK2 := Lib.hid hK2
      have HD2 := Lib.hid hD2
      obtain ⟨⟨m0, m1, m2⟩, -⟩ := hmb.cells3
      obtain ⟨⟨r0, r1, r2⟩, f0, f1, f2⟩ := hres.cells3
      have HMb5 := Lib.hid hmb
      clear hp hl5 hcl hkn hen hr5 hrb hres hmb hw hwc hc hstop hK1 hK2 hfc hD2
      gi_wp2
      have hMbU : w.heap.size + 1 < U.heap.size := HRes5.out.lt
      have hset : ∀ (X : World), Chg (fun q => q = w.heap.size + 1) U X → ∀ (j : Nat) (u : Value), Chg (fun q => q = w.heap.size + 1) U (X.setCell ⟨w.heap.size + 1, j, none⟩ u) := fun X h j u => h.set (p := ⟨w.heap.size + 1, j, none⟩) rfl u
      have hS := hset _ (hset _ (hset _ (Chg.refl _ U) 0 (.slice Ag gs.length cg)) 1 (.slice Ac cs.length cc)) 2 (.int .i64 m)
      have hRs : Blk (((U.setCell ⟨w.heap.size + 1, 0, none⟩ (.slice Ag gs.length cg)).setCell ⟨w.heap.size + 1, 1, none⟩ (.slice Ac cs.length cc)).setCell ⟨w.heap.size + 1, 2, none⟩ (.int .i64 m)) (w.heap.size + 1) #[.slice Ag gs.length cg, .slice Ac cs.length cc, .int .i64 m] 25 := (((HRes5.out.set 0 _).set 1 _).set 2 _)
      have hnc : ∀ (q : Nat) (o : Obj), U.heap[q]? = some o → o.isCells = false → q ≠ w.heap.size + 1 := fun q o ho hc e => by
        rw [e, HRes5.out.out] at ho
        cases ho
        cases hc
      have hD2 := (hS.block D2 (Array.getElem?_eq_some_iff.1 HK2.out).1 (hnc D2 _ HK2.out rfl)).trans HK2.out
      have hD1 := (hS.block D (Array.getElem?_eq_some_iff.1 HK1.out).1 (hnc D _ HK1.out rfl)).trans HK1.out
      generalize (((U.setCell ⟨w.heap.size + 1, 0, none⟩ (.slice Ag gs.length cg)).setCell ⟨w.heap.size + 1, 1, none⟩ (.slice Ac cs.length cc)).setCell ⟨w.heap.size + 1, 2, none⟩ (.int .i64 m)) = X at *
      have hDs := HD2.out
      have hDw := HD.out
      have hDlt : D < V3.heap.size := by omega
      have hC5s := HC5.out
      refine bodyPostM_ret2 (.agg #[.slice Ag gs.length cg, .slice Ac cs.length cc, .int .i64 m]) rfl hD2 hD1 (by omega) ?_
      rintro W' rfl
      have hP2 : Chg (fun q => q = D2 ∨ q = D) X ((X.putObj D2 (.deferred none)).putObj D (.deferred none)) := ((Chg.refl _ X).put hD2 (.inl rfl)).put (l := D) (o := .deferred (some [])) ((World.putObj_heap_other (by omega)).trans hD1) (.inr rfl)
      have hRsX : Blk ((X.putObj D2 (.deferred none)).putObj D (.deferred none)) (w.heap.size + 1) #[.slice Ag gs.length cg, .slice Ac cs.length cc, .int .i64 m] 25 := hP2.blk hRs (by rintro (h | h) <;> omega)
      obtain ⟨⟨z0, z1, z2⟩, -⟩ := hRsX.cells3
      generalize ((X.putObj D2 (.deferred none)).putObj D (.deferred none)) = Y at *
      refine ⟨by simp [results, Try.results28, go_sem, z0, z1, z2], ?_⟩
      have hT : Chg (fun q => q = w.heap.size + 1 ∨ q = D2 ∨ q = D) U Y := (hS.mono (fun q _ h => .inl h)).trans hP2 (fun q h => .inl (.inr h))
      have hnT : ∀ k, (k = w.heap.size + 1 ∨ k = D2 ∨ k = D) → k < U.heap.size → k < w.heap.size + 3 ∨ ∀ (c : Array Value) (t : Nat), U.heap[k]? ≠ some (.cells c t (0, 0)) := by
        rintro k (h | h | h) _
        · exact .inl (by omega)
        · subst h
          exact .inr (fun c t e => by rw [HK2.out] at e; cases e)
        · subst h
          exact .inr (fun c t e => by rw [HK1.out] at e; cases e)
      have h48 := RW.chg HW5.out hT (fun k hk hlt => (hnT k hk hlt).imp id (fun h q _ c => h c q))
      have h40 := RW.chg HW6.out hT (fun k hk hlt => (hnT k hk hlt).imp id (fun h q _ c => h c q))
      rw [← HF3.out]
      refine ⟨_, _, rfl, Kd.R_lower h48 (by omega), Kd.R_lower h40 (by omega), hT.rd HR5.out (by rintro (h | h | h) <;> omega), (HC5.out.trans hT (fun q hq => .inl (.inr (by rcases hq with h | h | h <;> omega)))).mono (fun q hq h => h.elim id (fun h => absurd h (by omega)))⟩
end Go.Proofs.Ytoiakaagbgfocaa.PC
