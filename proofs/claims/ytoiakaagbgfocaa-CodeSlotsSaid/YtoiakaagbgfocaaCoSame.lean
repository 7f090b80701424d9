/- Package code: Same: its contract. -/
import Derived.Test.YtoiakaagbgfocaaCoBytes
namespace Go.Proofs.Ytoiakaagbgfocaa.PC
open Go.RowKit Go.Proofs.YtoiakaagbgfocaaW.PrintWords Go.Proofs.YtoiakaagbgfocaaW.PrintLast Go.Proofs.YtoiakaagbgfocaaW.PrintMore
open Go.Proofs.Ytoiakaagbgfocaa.RG
set_option linter.unusedVariables false
set_option linter.unusedSimpArgs false
attribute [local go_sem] Oper.semAt_some

/-- a row of numbers of the call's own -/
abbrev RN (W : World) (base : Nat) (v : Value) (l : List Int) : Prop := Kd.R (Kd.int .i64) 2 W base (fun _ => True) v l
theorem RN.grown {W C : World} {base : Nat} {v : Value} {l : List Int} {row : Option Nat} (h : RN W base v l) (hg : W.grownBy C row) (hne : ∀ g, v.ownBlock = some g → row ≠ some g) : RN C base v l := by
  refine Kd.R_of_own ((Kd.own_of_R h).kept hg ?_) (fun _ _ => trivial)
  cases hv : v.ownBlock with
  | none => exact .inl rfl
  | some g => exact .inr (fun e => hne g hv e.symm)
theorem own_lower {W : World} {base base' n : Nat} {v : Value} {xs : List Value} {e sz : Nat} (hb : base' ≤ base) (h : W.ownsRow base e sz v n xs) : W.ownsRow base' e sz v n xs := by
  rcases h.2 with h0 | ⟨g, cap, cur, hv, hg, r⟩
  · exact ⟨h.1, .inl h0⟩
  · exact ⟨h.1, .inr ⟨g, cap, cur, hv, Nat.le_trans hb hg, r⟩⟩
set_option maxRecDepth 100000 in
set_option maxHeartbeats 8000000 in
theorem appendSeq_calls (M : Nat) (m : Im) (w0 w : World) (hkp : Kp tsB w0.heap.size w0 w) (hm : m.In w0) (hs : m.Sm) (hn : (imgN m.g m.cs m.m).length ≤ 1000000) (hM : Blk w M m.cells 25) :
    Calls Try.prog 48 #[.slice none 0 0, .func (.func 31) #[] #[.pointer (some ⟨M, 0, none⟩)]] w fun e w' => ∃ v, e = .returned v ∧ RN w' w.heap.size v (imgN m.g m.cs m.m) ∧ Below w.heap.size w w' := by
  refine (callsIn_wide (n := 5)).1 ?_
  refine callsIn_of_wp_marks Try.func48 rfl trivial ?_ rfl
  simp only [Try.ntmps48, List.size_toArray, List.length_cons, List.length_nil, Nat.reduceAdd, Nat.reduceSub, Array.replicate_succ, Array.replicate_zero, List.push_toArray, List.append_toArray, List.nil_append, List.cons_append]
  have HKp := Lib.hid hkp
  have HM := Lib.hid hm
  have HSm := Lib.hid hs
  have HN := Lib.hid hn
  have HBm := hM.alloc (.cells #[.slice none 0 0] 52)
  have HK := hkp.alloc (Nat.le_refl _) (.cells #[.slice none 0 0] 52)
  have HBo := Blk.new w #[.slice none 0 0] 52
  have hbel := below_alloc (Below.refl w.heap.size w) (.cells #[.slice none 0 0] 52)
  have HBe := Lib.hid hbel
  have hw0 : w0.heap.size ≤ w.heap.size := hkp.size
  have HBM := Lib.hid HBm
  clear hm hs hn hM hkp hbel
  gi_wp2_with fail
  generalize hV : w.alloc (.cells #[.slice none 0 0] 52) = V at *
  have hsz : V.heap.size = w.heap.size + 1 := by rw [← hV]; simp
  refine range_out (F := Fence.wide) (n := 5) rfl (by decide) (gf := 31) (lb := #[.pointer (some ⟨M, 0, none⟩)]) rfl trivial (enters_of Try.func31 (by kernel_rfl) rfl)
    (num_stops 4 M m w0 V HK HM.out HSm.out HBm) (fun r e => e.elim) (fun h k => Kp.trans h k)
    (fun W l o o' hl ho hc hw => Kp.put (Kp.refl _ _ _) (by have := (Array.getElem?_eq_some_iff.1 ho).1; have := HK.size; omega) (by have := HK.size; omega) ho hc)
    (fun W o hl => (Kp.refl _ _ _).alloc (by have := HK.size; omega) o)
    (Kp.refl _ _ _) (Nat.le_refl _) (fun _ => rfl)
    (fun pre W => (∃ v, Blk W w.heap.size #[v] 52 ∧ RN W (w.heap.size + 1) v pre) ∧ Below w.heap.size w W)
    (fun c pre W => False)
    ?hI (fun _ _ _ _ _ h => h.elim) (fun _ _ _ => trivial) ?h0
    (fun x a' _ => a' = { tmps := #[.slice none 0 0, .func (.func 31) #[] #[.pointer (some ⟨M, 0, none⟩)], .pointer (some ⟨w.heap.size, 0, none⟩), undef, .slice none 0 0, .int .i64 x, .func (.func 31) #[] #[.pointer (some ⟨M, 0, none⟩)], .int .i64 x, undef, undef, undef, undef, undef], defers := [] })
    (fun _ _ _ _ _ _ hs _ _ => hs) ?assign ?body ?done ?stop
  case h0 => exact ⟨⟨_, HBo, Kd.R_nil _ _ _ _ _⟩, HBe.out⟩
  case assign =>
    intro l pre x W K hi hR hK
    gi_wp2
    exact hK _ _ (KeepsFrom.refl _ _) (Kp.refl _ _ _) hi rfl
  case hI =>
    rintro pre A C row ⟨⟨v, hb, hx⟩, hbl⟩ hg hr
    have hrow : ∀ r, row = some r → V.heap.size ≤ r ∧ ∃ o : Obj, A.heap[r]? = some o ∧ o.isCells = false := fun r e => (hr r e).resolve_left (fun h => h)
    refine ⟨⟨v, hb.grown hg (fun e => ?_), RN.grown hx hg (fun g hv e => ?_)⟩, hbl.grown hg hbl.size (fun k e => ?_)⟩
    · obtain ⟨_, o, ho, hc⟩ := hrow _ e
      rw [hb.out] at ho
      cases ho
      cases hc
    · obtain ⟨_, o, ho, hc⟩ := hrow g e
      obtain ⟨_, cs', hh⟩ := row_type hx hv
      rw [hh.out] at ho
      cases ho
      cases hc
    · have := (hrow k e).1
      omega
  case body =>
    clear HBo HBm hV
    rintro l pre x a' W hl hrec ⟨⟨v, hb, hx⟩, hbl⟩ rfl hR
    have hpl : pre.length < (imgN m.g m.cs m.m).length := (List.getElem?_eq_some_iff.1 hR).1
    have hsW : w.heap.size + 1 ≤ W.heap.size := hb.lt
    obtain ⟨A', c', rfl⟩ := row_slice hx
    have hown := Kd.own_of_R hx
    have hmw : encs (Value.int .i64) pre = pre.map (Value.int .i64) := rfl
    rw [hmw] at hown
    have c0' := fun o => (hb.alloc o).cells1.1
    have f0' := fun o => (hb.alloc o).cells1.2
    have HHb := Lib.hid hb
    have HBl := Lib.hid hbl
    have HXx := Lib.hid hx
    have HW1 := Lib.hid hown
    have HP := Lib.hid (show pre.length < 1000000 by have := HN.out; omega)
    have HSW := Lib.hid hsW
    obtain ⟨i0, hi, hz0, hz1, hz2⟩ := info_parts info2
    clear hpl hR hx hrec hb hbl hown hmw hsW
    have c0'' := HHb.out.cells1.1
    gi_wp2_with (gi_at_builtin; refine wpListIn_append_own _ rfl _ _ 52 rfl (w.heap.size + 1) 2 i0 (.int .i64 0) 1 8 Try.underlying52 hi hz0 hz1 hz2 rfl (by decide) _ _ _ rfl (HW1.out.kept (World.grownBy_alloc W (.cells #[.int .i64 x] 2) none) ?c0) ⟨W.heap.size, 0, none⟩ 1 1 [.int .i64 x] rfl rfl ?c1 ?c2 ?c3 ?c4 ?c5 ?_)
    case c0 => cases A' <;> simp [Value.ownBlock]
    case c1 =>
      intro j u hu
      match j, hu with
      | 0, hu => exact ((Blk.new W #[.int .i64 x] 2).cell 0).trans hu
      | j + 1, hu => simp at hu
    case c2 =>
      intro u hu
      simp at hu
      subst hu
      rfl
    case c3 => have := HP.out; unfold maxLen; omega
    case c4 => have := HP.out; omega
    case c5 => have := HSW.out; simp; omega
    intro v' w' hown' hgrow _
    have hown2 : RN w' (w.heap.size + 1) v' (pre ++ [x]) := Kd.R_of_own (by
      have h1 := hown'
      rw [show (pre ++ [x]).length = pre.length + 1 by simp, show encs (Value.int .i64) (pre ++ [x]) = pre.map (Value.int .i64) ++ [.int .i64 x] by simp [encs]]
      exact h1) (fun _ _ => trivial)
    have hG := grown_go (row := (Value.slice A' pre.length c').ownBlock) (World.grownBy_alloc W (.cells #[.int .i64 x] 2) _) hgrow (fun q e => .inl e)
    have hne : (Value.slice A' pre.length c').ownBlock ≠ some w.heap.size := fun e => by
      have h1 := (row_type HXx.out e).1
      omega
    have hb2 : Blk w' w.heap.size #[.slice A' pre.length c'] 52 := HHb.out.grown hG hne
    have HK2 := Lib.hid (Kp.grown (Kp.refl tsB w0.heap.size W) (by have := HSW.out; omega) hG (fun r e => ⟨by have := (row_type HXx.out e).1; omega, fun cs t x hx => by
      obtain ⟨_, cs', hh⟩ := row_type HXx.out e
      rw [hh.out] at hx
      cases hx
      rfl⟩))
    have HO2 := Lib.hid (KeepsOthers.of_grownBy hG (fun j o e hj => by
      obtain ⟨_, cs', hh⟩ := row_type HXx.out e
      rw [hh.out] at hj
      cases hj
      rfl))
    have HBl2 := Lib.hid (HBl.out.grown hG HBl.out.size (fun k e => by have := (row_type HXx.out e).1; omega))
    obtain ⟨l', hl'⟩ : ∃ l', l' = pre ++ [x] := ⟨_, rfl⟩
    rw [← hl'] at hown2
    have HLl := Lib.hid hl'
    clear hl' hown' hgrow hG hne c0' f0' c0''
    obtain ⟨A2, c2, rfl⟩ := row_slice hown2
    have HR2 := Lib.hid hown2
    have HB2 := Lib.hid hb2
    obtain ⟨c0', f0'⟩ := hb2.cells1
    clear hown2 hb2
    gi_wp2
    have hge : w0.heap.size ≤ (⟨w.heap.size, 0, none⟩ : Addr).block := hw0
    refine ⟨(HO2.out.trans (KeepsOthers.setCell _ _ _)).from _, HK2.out.set (by have := HSW.out; omega) hge HB2.out rfl _, ⟨_, HB2.out.set 0 _, ?_⟩, HBl2.out.setCell (p := ⟨w.heap.size, 0, none⟩) (Nat.le_refl _) _⟩
    rw [← HLl.out]
    refine RN.grown HR2.out (grownBy_setCell' w' w.heap.size (.slice A2 l'.length c2)) (fun g hv e => ?_)
    have h1 := (row_type HR2.out hv).1
    cases e
    omega
  case done =>
    clear HBo HBm hV
    rintro D xs W hD rfl ⟨⟨v, hb, hx⟩, hbl⟩ hK
    obtain ⟨c0', f0'⟩ := hb.cells1
    have HXx := Lib.hid hx
    have HBl := Lib.hid hbl
    have HK2 := Lib.hid hK
    have HD := Lib.hid hD
    clear hx hbl hb hK hD
    gi_wp2
    refine bodyPostM_ret v rfl HK2.out ?_
    rintro W' rfl
    refine ⟨by simp [results, Try.results48, go_sem], v, rfl, ?_, HBl.out.grown (grownBy_putObj' _ _ _) HBl.out.size (fun k e => by cases e; have := HD.out; omega)⟩
    exact Kd.R_of_own (own_lower (by omega) (ownsRow_putObj (Kd.own_of_R HXx.out) (.deferred none) HK2.out rfl)) (fun _ _ => trivial)
  case stop =>
    intro D c pre W hD _ h
    exact h.elim
theorem collect_calls (M : Nat) (m : Im) (w0 w : World) (hkp : Kp tsB w0.heap.size w0 w) (hm : m.In w0) (hs : m.Sm) (hn : (imgN m.g m.cs m.m).length ≤ 1000000) (hM : Blk w M m.cells 25) :
    Calls Try.prog 30 #[.func (.func 31) #[] #[.pointer (some ⟨M, 0, none⟩)]] w fun e w' => ∃ v, e = .returned v ∧ RN w' w.heap.size v (imgN m.g m.cs m.m) ∧ Below w.heap.size w w' := by
  have HA := Lib.hid (appendSeq_calls M m w0 w hkp hm hs hn hM)
  clear hkp hm hs hn hM
  go_enter Try.func30, Try.ntmps30
  go_wp2_with fail
  refine HA.out.mono ?_
  rintro e W' ⟨v, rfl, hR, hB⟩
  have HR := Lib.hid hR
  have HB := Lib.hid hB
  clear hR hB HA
  go_wp2_with fail
  go_ret
  exact ⟨v, rfl, HR.out, HB.out⟩
theorem numbersB_calls (m : Im) (w : World) : Calls Try.prog 19 #[m.val] w fun e w' => ∃ M, e = .returned (.func (.func 31) #[] #[.pointer (some ⟨M, 0, none⟩)]) ∧ Blk w' M m.cells 25 ∧ Below w.heap.size w w' :=
  (numbers_calls m w).mono fun e w' h => by
    obtain ⟨rfl, rfl⟩ := h
    exact ⟨_, rfl, Blk.new _ _ _, below_alloc (Below.refl _ _) _⟩
/-- equal lists of numbers -/
theorem equal_l0 : ∀ (k : Nat) (a b : List Int) (i : Nat), a.length = b.length → i + k = a.length → a.length ≤ 1000000 → slices_Equal_int64_int64.l0 (k + 1) a b (a.length : Int) (i : Int) = some (decide (a.drop i = b.drop i))
  | 0, a, b, i, h, hi, hl => by
    unfold slices_Equal_int64_int64.l0
    rw [if_neg (by omega), List.drop_eq_nil_of_le (by omega), List.drop_eq_nil_of_le (by omega)]
    rfl
  | k + 1, a, b, i, h, hi, hl => by
    unfold slices_Equal_int64_int64.l0
    have h1 : i < a.length := by omega
    have h2 : i < b.length := by omega
    have w1 : wrap64 ((i : Int) + 1) = ((i + 1 : Nat) : Int) := by unfold wrap64; omega
    rw [if_pos (by omega), if_pos (by omega), if_pos (by omega), if_pos (by omega), w1, equal_l0 k a b (i + 1) h (by omega) hl]
    rw [List.drop_eq_getElem_cons h1, List.drop_eq_getElem_cons h2]
    have e1 : rd a (i : Int) = a[i] := by simp [rd, List.getD, h1]
    have e2 : rd b (i : Int) = b[i] := by simp [rd, List.getD, h2]
    rw [e1, e2]
    by_cases hx : a[i] = b[i]
    · rw [if_pos hx, hx]
      simp only [List.cons.injEq, true_and]
    · rw [if_neg hx, decide_eq_false]
      intro e
      injection e with e3 _
      exact hx e3
theorem equal_f (a b : List Int) (hl : a.length ≤ 1000000) : slices_Equal_int64_int64.f (a.length + 1) a b = some (decide (a = b)) := by
  unfold slices_Equal_int64_int64.f
  by_cases h : a.length = b.length
  · rw [if_pos (by omega)]
    simpa using equal_l0 a.length a b 0 h (by omega) hl
  · rw [if_neg (by omega), decide_eq_false (fun e => h (by rw [e]))]
structure S2b (a b : Im) (w W : World) : Prop where mk :: (b1 : Blk W w.heap.size a.cells 25) (b2 : Blk W (w.heap.size + 1) b.cells 25) (bel : Below w.heap.size w W)
theorem S2b.below {a b : Im} {w W W' : World} (h : S2b a b w W) (hb : Below W.heap.size W W') : S2b a b w W' := ⟨h.b1.below hb, h.b2.below hb, below_step h.bel hb⟩
theorem RN.below {W W' : World} {base : Nat} {v : Value} {l : List Int} (h : RN W base v l) (hb : Below W.heap.size W W') : RN W' base v l := Kd.R_below h hb
theorem rn_eq {W : World} {base : Nat} {v : Value} {l l' : List Int} (h : RN W base v l) (e : l = l') : RN W base v l' := e ▸ h
theorem RN.reads {W : World} {base : Nat} {A : Option Addr} {c : Nat} {l : List Int} (h : RN W base (.slice A l.length c) l) : Kd.C (Kd.int .i64) W A l.length l ∧ l.length ≤ c :=
  ⟨(Kd.R_reads' h).2.2, (Kd.R_reads' h).2.1⟩
set_option maxRecDepth 100000 in
set_option maxHeartbeats 8000000 in
theorem same_calls (a b : Im) (w : World) (ha : a.In w) (hb : b.In w) (sa : a.Sm) (sb : b.Sm) (na : (imgN a.g a.cs a.m).length ≤ 1000000) (nb : (imgN b.g b.cs b.m).length ≤ 1000000) :
    Calls Try.prog 15 #[a.val, b.val] w fun e w' => e = .returned (.bool (decide (imgN a.g a.cs a.m = imgN b.g b.cs b.m))) ∧ Below w.heap.size w w' := by
  have HA := Lib.hid ha
  have HB := Lib.hid hb
  have SA := Lib.hid sa
  have SB := Lib.hid sb
  have NA := Lib.hid na
  have NB := Lib.hid nb
  have HEq := Lib.hid (equal_f (imgN a.g a.cs a.m) (imgN b.g b.cs b.m) na)
  have S0 : S2b a b w (((w.alloc (.cells a.cells 25)).alloc (.cells b.cells 25)).drew) := ⟨((Blk.new w a.cells 25).alloc _).drew, (Blk.new' (by simp) _ _).drew, below_drew (below_alloc (below_alloc (Below.refl _ _) _) _)⟩
  clear ha hb sa sb na nb
  obtain ⟨A0, c0, gs, A1, c1, cs, mm⟩ := a
  obtain ⟨B0, d0, hs, B1, d1, ds, nn⟩ := b
  generalize hra : decide (imgN gs cs mm = imgN hs ds nn) = r at HEq ⊢
  generalize hna : imgN gs cs mm = na at *
  generalize hnb : imgN hs ds nn = nb at *
  have HNA := Lib.hid hna
  have HNB := Lib.hid hnb
  have NA2 : Hid ((imgN gs cs mm).length ≤ 1000000) := Lib.hid (by rw [hna]; exact NA.out)
  have NB2 : Hid ((imgN hs ds nn).length ≤ 1000000) := Lib.hid (by rw [hnb]; exact NB.out)
  clear hna hnb hra
  go_enter Try.func15, Try.ntmps15
  go_wp2_with fail
  go_region_with (first
    | (go_at_call 19; refine (numbersB_calls ⟨A0, c0, gs, A1, c1, cs, mm⟩ _).mono ?_; rintro e W1 ⟨M1, rfl, BM1, hb1⟩; have S1 := S0.below hb1; obtain ⟨⟨x0, x1, x2⟩, -⟩ := S1.b2.cells3)
    | (go_at_call 30; refine (collect_calls M1 ⟨A0, c0, gs, A1, c1, cs, mm⟩ w _ (Kp.of_below S1.bel (Nat.le_refl _)) HA.out SA.out NA2.out BM1).mono ?_; rintro e W2 ⟨v1, rfl, hR1, hb2⟩; have S2 := S1.below hb2; obtain ⟨⟨y0, y1, y2⟩, -⟩ := S2.b2.cells3)
    | (go_at_call 19; refine (numbersB_calls ⟨B0, d0, hs, B1, d1, ds, nn⟩ _).mono ?_; rintro e W3 ⟨M2, rfl, BM2, hb3⟩; have S3 := S2.below hb3; have hR1' := RN.below hR1 hb3)
    | (go_at_call 30; refine (collect_calls M2 ⟨B0, d0, hs, B1, d1, ds, nn⟩ w _ (Kp.of_below S3.bel (Nat.le_refl _)) HB.out SB.out NB2.out BM2).mono ?_; rintro e W4 ⟨v2, rfl, hR2, hb4⟩; have S4 := S3.below hb4; have hR1'' := RN.below hR1' hb4; replace hR1'' := rn_eq hR1'' HNA.out; replace hR2 := rn_eq hR2 HNB.out; obtain ⟨A2, c2, rfl⟩ := row_slice hR2; obtain ⟨A1', c1', rfl⟩ := row_slice hR1'')
    | (go_at_call 29; refine (slices_Equal_int64_int64.calls _ A1' c1' na A2 c2 nb r _ hR1''.reads.1 hR1''.reads.2 hR2.reads.1 hR2.reads.2 HEq.out).mono ?_; rintro e W5 ⟨rfl, hb5⟩; have S5 := S4.below hb5.below))
  all_goals
    go_wp2
    go_ret
    exact ⟨rfl, S5.bel⟩
end Go.Proofs.Ytoiakaagbgfocaa.PC
