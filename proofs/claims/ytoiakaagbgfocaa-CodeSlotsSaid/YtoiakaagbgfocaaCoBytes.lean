/- Package code: Bytes: its contract. -/
import Derived.Test.YtoiakaagbgfocaaCoSeq
import Derived.Test.YtoiakaagbgfocaaCoImg
import Derived.Lib.SlBytesConst
namespace Go.Proofs.Ytoiakaagbgfocaa.PC
open Go.RowKit Go.Proofs.YtoiakaagbgfocaaW.PrintWords Go.Proofs.YtoiakaagbgfocaaW.PrintLast Go.Proofs.YtoiakaagbgfocaaW.PrintMore
open Go.Proofs.Ytoiakaagbgfocaa.RG
set_option linter.unusedVariables false
set_option linter.unusedSimpArgs false
attribute [local go_sem] Oper.semAt_some

theorem digL_len (n : Int) : (digL n).length ≤ 10 := digU_len 9 _
theorem flat_len : ∀ (l : List Int), (l.flatMap digL).length ≤ 10 * l.length
  | [] => by simp
  | x :: l => by
    have h1 := digL_len x
    have h2 := flat_len l
    rw [List.flatMap_cons, List.length_append, List.length_cons]
    omega
/-- an image's bytes -/
def bytesL (gs : List S48) (cs : List S40) (m : Int) : List Int := [68, 82, 79, 71, 49] ++ (imgN gs cs m).flatMap digL
theorem bodyPostM_ret0 {F : Fence} {n : Nat} {P : Program} {fn : Func} {R : Ending → World → Prop} {a : Act} {W : World} {v : Value} (h1 : (results fn a.tmps).run P W = .ok v W) (hd : a.defers = []) (hR : R (.returned v) W) : bodyPostM F n P fn R .ret a W := by
  show LeavesInM F n P fn a.tmps R a.defers .returning W
  rw [hd]
  exact ⟨v, h1, hR⟩
set_option maxRecDepth 100000 in
set_option maxHeartbeats 8000000 in
theorem bytes_calls (m : Im) (w : World) (hm : m.In w) (hs : m.Sm) (hn : (imgN m.g m.cs m.m).length ≤ 1000000) :
    Calls Try.prog 9 #[m.val] w fun e w' => ∃ v, e = .returned (.tuple #[v, .bool (imgB m.g m.cs m.m)]) ∧ RB w' w.heap.size v (if imgB m.g m.cs m.m then bytesL m.g m.cs m.m else []) ∧ Below w.heap.size w w' := by
  refine (callsIn_wide (n := 5)).1 ?_
  refine callsIn_of_wp_marks Try.func9 rfl trivial ?_ rfl
  simp only [Try.ntmps9, List.size_toArray, List.length_cons, List.length_nil, Nat.reduceAdd, Nat.reduceSub, Array.replicate_succ, Array.replicate_zero, List.push_toArray, List.append_toArray, List.nil_append, List.cons_append]
  have HM := Lib.hid hm
  have HSm := Lib.hid hs
  have HN := Lib.hid hn
  obtain ⟨b, hb⟩ : ∃ b, b = imgB m.g m.cs m.m := ⟨_, rfl⟩
  rw [← hb]
  have HBb := Lib.hid hb
  clear hm hs hn hb
  gi_wp2_with fail
  refine call_in0 ?_
  refine at_world (fun W => In1i m w W) (In1i.new m w) ?_
  rintro W0 HB
  have HIc := Lib.hid (img_calls m W0 (HM.out.below rfl HB.bel) HSm.out.g HSm.out.c)
  rw [← HBb.out] at HIc
  cases b with
  | false =>
    refine HIc.out.mono ?_
    rintro e W1 ⟨rfl, hb⟩
    replace HB := HB.below hb
    clear hb HIc W0
    gi_wp2
    refine bodyPostM_ret0 (v := .tuple #[.slice none 0 0, .bool false]) (by simp [results, Try.results9, go_sem]) rfl ?_
    refine ⟨_, rfl, ?_, HB.bel⟩
    exact Kd.R_nil _ _ _ _ _
  | true =>
    refine HIc.out.mono ?_
    rintro e W1 ⟨rfl, hb⟩
    replace HB := HB.below hb
    clear hb HIc W0
    have HSm2 := HSm
    obtain ⟨A0, c0, gs, A1, c1, cs, mm⟩ := m
    simp only at HN
    obtain ⟨⟨d0, d1, d2⟩, -⟩ := HB.b1.cells3
    have e0 := fun o o' => cell_al (cell_al d0 o) o'
    have e1 := fun o o' => cell_al (cell_al d1 o) o'
    have e2 := fun o o' => cell_al (cell_al d2 o) o'
    have kc := fun (w : World) (C : Array Value) (n c : Nat) => Lib.run_convert_bytes_const (P := Try.prog) w 28 5 C n c Try.underlying28 Try.underlying5
    gi_wp2_with fail
    refine call_in0 ?_
    refine at_world (fun V => Kp tsB w.heap.size w V ∧ (∃ v, Blk V (W1.heap.size + 1) #[v] 28 ∧ v = .slice (some ⟨W1.heap.size, 0, none⟩) 5 5 ∧ FullB V w.heap.size v [68, 82, 79, 71, 49])) ?_ ?_
    · refine ⟨((Kp.of_below HB.bel (Nat.le_refl _)).alloc (Nat.le_refl _) _).alloc (Nat.le_refl _) _, .slice (some ⟨W1.heap.size, 0, none⟩) 5 5, Blk.new' (by simp) _ _, rfl, ?_⟩
      refine ⟨W1.heap.size, (5, 6), rfl, HB.bel.size, ?_⟩
      exact (Below.heap_alloc _ _ _ (by simp)).trans (World.alloc_heap_new W1 _)
    clear d0 d1 d2 e0 e1 e2
    rintro V0 ⟨HK, v0, HBo, hv0, HF⟩
    refine (numbers_calls ⟨A0, c0, gs, A1, c1, cs, mm⟩ _).mono ?_
    rintro e V1 ⟨rfl, rfl⟩
    have HBm := Blk.new V0 (Im.cells ⟨A0, c0, gs, A1, c1, cs, mm⟩) 25
    replace HK := HK.alloc (Nat.le_refl _) (.cells (Im.cells ⟨A0, c0, gs, A1, c1, cs, mm⟩) 25)
    replace HBo := HBo.alloc (.cells (Im.cells ⟨A0, c0, gs, A1, c1, cs, mm⟩) 25)
    have HF2 : RX (V0.alloc (.cells (Im.cells ⟨A0, c0, gs, A1, c1, cs, mm⟩) 25)) w.heap.size v0 [68, 82, 79, 71, 49] := RX.grown (.inr HF) (World.grownBy_alloc V0 _ none) (fun g _ e => by cases e)
    generalize V0.alloc (.cells (Im.cells ⟨A0, c0, gs, A1, c1, cs, mm⟩) 25) = V at *
    generalize V0.heap.size = M at *
    have hbo : w.heap.size ≤ W1.heap.size + 1 := by have := HB.bel.size; omega
    clear HF HB
    generalize W1.heap.size + 1 = Bo at *
    gi_wp2_with fail
    refine range_out (F := Fence.wide) (n := 5) rfl (by decide) (gf := 31) (lb := #[.pointer (some ⟨M, 0, none⟩)]) rfl trivial (enters_of Try.func31 (by kernel_rfl) rfl)
      (num_stops 4 M ⟨A0, c0, gs, A1, c1, cs, mm⟩ w V HK HM.out HSm2.out HBm) (fun r e => e.elim) (fun h k => Kp.trans h k)
      (fun W l o o' hl ho hc hw => Kp.put (Kp.refl _ _ _) (by have := (Array.getElem?_eq_some_iff.1 ho).1; have := HK.size; omega) (by have := HK.size; omega) ho hc)
      (fun W o hl => (Kp.refl _ _ _).alloc (by have := HK.size; omega) o)
      (Kp.refl _ _ _) (Nat.le_refl _) (fun _ => rfl)
      (fun pre W => (∃ v, Blk W Bo #[v] 28 ∧ RX W w.heap.size v ([68, 82, 79, 71, 49] ++ pre.flatMap digL) ∧ (pre = [] ∨ RB W w.heap.size v ([68, 82, 79, 71, 49] ++ pre.flatMap digL))) ∧ Below w.heap.size w W)
      (fun c pre W => False)
      ?hI (fun _ _ _ _ _ h => h.elim) (fun _ _ _ => trivial) ?h0
      (fun x a' _ => a' = { tmps := #[(Im.val ⟨A0, c0, gs, A1, c1, cs, mm⟩), .pointer (some ⟨w.heap.size, 0, none⟩), .slice none 0 0, .bool false, .pointer (some ⟨Bo, 0, none⟩), .int .i64 x, .agg #[.slice A0 gs.length c0, .slice A1 cs.length c1, .int .i64 mm], .bool true, .bool false, .slice (some ⟨W1.heap.size, 0, none⟩) 5 5, .slice (some ⟨W1.heap.size, 0, none⟩) 5 5, .agg #[.slice A0 gs.length c0, .slice A1 cs.length c1, .int .i64 mm], .func (.func 31) #[] #[.pointer (some ⟨M, 0, none⟩)], .int .i64 x, undef, undef, undef, undef], defers := [] })
      (fun _ _ _ _ _ _ hs _ _ => hs) ?assign ?body ?done ?stop
    case h0 => exact ⟨⟨v0, HBo, by simpa using HF2, .inl rfl⟩, HK.below⟩
    case assign =>
      intro l pre x W K hi hR hK
      gi_wp2
      exact hK _ _ (KeepsFrom.refl _ _) (Kp.refl _ _ _) hi rfl
    case hI =>
      rintro pre A C row ⟨⟨v, hb, hx, hx2⟩, hbl⟩ hg hr
      have hrow : ∀ r, row = some r → V.heap.size ≤ r ∧ ∃ o : Obj, A.heap[r]? = some o ∧ o.isCells = false := fun r e => (hr r e).resolve_left (fun h => h)
      have hne : ∀ g, v.ownBlock = some g → row ≠ some g := fun g hv e => by
        obtain ⟨_, o, ho, hc⟩ := hrow g e
        obtain ⟨_, cs', fz, hh⟩ := hx.type hv
        rw [hh] at ho
        cases ho
        cases hc
      refine ⟨⟨v, hb.grown hg (fun e => ?_), hx.grown hg hne, hx2.imp id (fun h => RB.grown h hg hne)⟩, hbl.grown hg hbl.size (fun k e => ?_)⟩
      · obtain ⟨_, o, ho, hc⟩ := hrow Bo e
        rw [hb.out] at ho
        cases ho
        cases hc
      · have := (hrow k e).1
        have := HK.size
        omega
    case body =>
      clear HBo HF2
      rintro l pre x a' W hl hrec ⟨⟨v, hb, hx, -⟩, hbl⟩ rfl hR
      have hpl : ([68, 82, 79, 71, 49] ++ pre.flatMap digL).length ≤ 100000000 := by
        have h1 : pre.length < (imgN gs cs mm).length := (List.getElem?_eq_some_iff.1 hR).1
        have h2 := flat_len pre
        have h3 := HN.out
        rw [List.length_append]
        simp only [List.length_cons, List.length_nil]
        omega
      have HD := Lib.hid (digits_calls _ x v w.heap.size W hbl.size hx hpl)
      obtain ⟨c0', f0'⟩ := hb.cells1
      have HHb := Lib.hid hb
      have HBl := Lib.hid hbl
      have HXx := Lib.hid hx
      clear hpl hR hx hrec hb hbl
      gi_wp2_with fail
      refine call_round0 (HD.out.mono ?_)
      rintro e W2 ⟨v', rfl, hR', hG'⟩
      obtain ⟨l', hl'⟩ : ∃ l', l' = [68, 82, 79, 71, 49] ++ pre.flatMap digL ++ digL x := ⟨_, rfl⟩
      rw [← hl'] at hR'
      have HLl := Lib.hid hl'
      clear hl'
      obtain ⟨A', c', rfl⟩ := row_slice hR'
      have hb2 : Blk W2 Bo #[v] 28 := HHb.out.grown hG' (HXx.out.apart HHb.out (by decide))
      have hbl2 : Below w.heap.size w W2 := HBl.out.grown hG' HBl.out.size (fun k e => (HXx.out.type e).1)
      have HK2 := Lib.hid (HXx.out.kp HBl.out.size hG')
      have HO2 := Lib.hid (HXx.out.others hG')
      have HR2 := Lib.hid hR'
      have HB2 := Lib.hid hb2
      have HBl2 := Lib.hid hbl2
      obtain ⟨c0', f0'⟩ := hb2.cells1
      clear HD hG' hR' hb2 hbl2
      gi_wp2
      refine ⟨(HO2.out.trans (KeepsOthers.setCell _ _ _)).from _, HK2.out.set HBl.out.size (p := ⟨Bo, 0, none⟩) hbo HB2.out rfl _, ⟨_, HB2.out.set 0 _, ?_, ?_⟩, HBl2.out.setCell (p := ⟨Bo, 0, none⟩) hbo _⟩
      all_goals
        rw [show [68, 82, 79, 71, 49] ++ (pre ++ [x]).flatMap digL = l' by rw [HLl.out]; simp]
        have hr3 := RB.grown HR2.out (grownBy_setCell' W2 Bo (.slice A' l'.length c')) (fun g hv e => by
          cases e
          exact RX.apart (.inl HR2.out) HB2.out (by decide) hv)
      · exact .inl hr3
      · exact .inr hr3
    case done =>
      clear HBo HF2
      rintro D xs W hD rfl ⟨⟨v, hb, -, hx⟩, hbl⟩ hK
      obtain ⟨c0', f0'⟩ := hb.cells1
      have HXx := Lib.hid hx
      have HBl := Lib.hid hbl
      have HK2 := Lib.hid hK
      have HD := Lib.hid hD
      clear hx hbl hb hK hD
      gi_wp2
      refine bodyPostM_ret (.tuple #[v, .bool true]) rfl HK2.out ?_
      rintro W' rfl
      refine ⟨by simp [results, Try.results9, go_sem], v, rfl, ?_, HBl.out.grown (grownBy_putObj' _ _ _) HBl.out.size (fun k e => by cases e; have := HD.out; have := HK.size; omega)⟩
      rcases HXx.out with h | h
      · simp [imgN] at h
      · exact Kd.R_of_own (ownsRow_putObj (Kd.own_of_R h) (.deferred none) HK2.out rfl) (fun _ _ => trivial)
    case stop =>
      intro D c pre W hD _ h
      exact h.elim
end Go.Proofs.Ytoiakaagbgfocaa.PC
