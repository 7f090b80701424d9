/- Package trace: Live: its contract. -/
import Derived.Test.YtlkppkmfpinocaaDoorTrParse
import Derived.Test.YtlkppkmfpinocaaDoorShelfG
import Derived.Lib.SliceRun
namespace Go.Proofs.YtlkppkmfpinocaaDoor.PT
open Go.RowKit Go.Proofs.YtlkppkmfpinocaaDoorW.PrintWords Go.Proofs.YtlkppkmfpinocaaDoorW.PrintLast Go.Proofs.YtlkppkmfpinocaaDoorW.PrintMore
open Go.Proofs.YtlkppkmfpinocaaDoor.RG
set_option linter.unusedVariables false
set_option linter.unusedSimpArgs false

abbrev ints (l : List Int) : List Value := l.map (Value.int .i64)
theorem own_holds {w : World} {base n : Nat} {v : Value} {zs : List Int} (h : w.ownsRow base 2 1 v n (ints zs)) : (v = .slice none 0 0 ∧ n = 0 ∧ zs = []) ∨
    ∃ g cap, v = .slice (some ⟨g, 0, none⟩) n cap ∧ base ≤ g ∧ g < w.heap.size ∧ n = zs.length ∧ n ≤ cap ∧ Go.Sort.Holds (Value.int .i64) w g 0 zs.toArray := by
  have hl : zs.length = n := by simpa using h.1
  rcases h.2 with ⟨rfl, rfl⟩ | ⟨g, cap, cur, rfl, hg, hgb, hc, hm, hs, ht⟩
  · exact .inl ⟨rfl, rfl, List.length_eq_zero_iff.1 hl⟩
  · refine .inr ⟨g, cap, rfl, hg, (Array.getElem?_eq_some_iff.1 hgb).1, hl.symm, hc, fun j hj => ⟨?_, Lib.frozen_of_heap hgb _⟩⟩
    rw [Lib.cell_of_heap hgb, Nat.zero_add]
    have hj' : j < zs.length := by simpa using hj
    have h1 : (cur.toList.take (n * 1))[j]? = (ints zs)[j]? := by rw [ht]
    rw [List.getElem?_take, if_pos (by omega), Array.getElem?_toList] at h1
    rw [h1, List.getElem?_map, List.getElem?_eq_getElem hj']
    simp [hj']
theorem put_own {w : World} {base n cap g q : Nat} {xs : List Value} (h : w.ownsRow base 2 1 (.slice (some ⟨g, 0, none⟩) n cap) n xs) (d : Array Int) (hd : d.size = n) (m : Nat) (hm : m ≤ n) :
    (Go.Sort.putRow (Value.int .i64) (Go.Sort.ahead w q) g 0 d).ownsRow base 2 1 (.slice (some ⟨g, 0, none⟩) m cap) m (ints (d.toList.take m)) ∧ w.grownBy (Go.Sort.putRow (Value.int .i64) (Go.Sort.ahead w q) g 0 d) (some g) := by
  rcases h.2 with ⟨h0, _⟩ | ⟨g', cap', cur, hv, hg, hgb, hc, hmx, hs, ht⟩
  · cases h0
  · injection hv with h1 h2 h3
    injection h1 with h1
    injection h1 with h1
    subst h1
    subst h3
    refine ⟨⟨by simp [hd]; omega, .inr ⟨g, cap, Go.Sort.putCells (Value.int .i64) 0 d cur, rfl, hg, ?_, by omega, hmx, ?_, ?_⟩⟩, ⟨rfl, rfl, rfl, by simp, fun k hk hne => ?_⟩⟩
    · show (((Go.Sort.ahead w q).heap.modify g (Go.Sort.onCells (Go.Sort.putCells (Value.int .i64) 0 d)))[g]?) = _
      rw [Array.getElem?_modify, if_pos rfl]
      rw [show (Go.Sort.ahead w q).heap[g]? = some (.cells cur 2 (0, 0)) from hgb]
      rfl
    · simp [Go.Sort.putCells, hs]
    · apply List.ext_getElem?
      intro j
      rw [Nat.mul_one, List.getElem?_take, List.getElem?_map, List.getElem?_take]
      by_cases hj : j < m
      · rw [if_pos hj, if_pos hj, Array.getElem?_toList, Array.getElem?_toList]
        simp only [Go.Sort.putCells, Array.getElem?_mapIdx, Nat.zero_le, true_and, Nat.zero_add, Nat.sub_zero]
        have hjc : j < cur.size := by omega
        have hjd : j < d.size := by omega
        rw [Array.getElem?_eq_getElem hjc, Array.getElem?_eq_getElem hjd]
        simp [hjd]
      · rw [if_neg hj, if_neg hj]
        rfl
    · show (((Go.Sort.ahead w q).heap.modify g (Go.Sort.onCells (Go.Sort.putCells (Value.int .i64) 0 d)))[k]?) = _
      rw [Array.getElem?_modify, if_neg (fun e => hne (by rw [e]))]
      rfl
/-- what the closure answers -/
theorem gives40 (n x : Int) (B : Nat) (W : World) (hc : W.cell? ⟨B, 1, none⟩ = some (.int .i64 n)) :
    Go.Proofs.FnGives Tryd.prog 40 #[.pointer (some ⟨B, 0, none⟩)] #[.int .i64 x] (.bool (x == n)) W := by
  show Calls Tryd.prog 40 #[.int .i64 x, .pointer (some ⟨B, 0, none⟩)] W _
  go_enter Tryd.func40, Tryd.ntmps40
  go_wp2
  go_ret
  exact ⟨rfl, 0, rfl⟩
def delL (n : Int) (zs : List Int) : List Int := zs.filter fun x => !(x == n)
theorem delete_nil (fv : Value) (w : World) : Calls Tryd.prog 39 #[.slice none 0 0, fv] w fun e w' => e = .returned (.slice none 0 0) ∧ w' = w := by
  have HI := Lib.hid (fun W => AnyE.slices_IndexFunc_empty Tryd.lIdx none 0 fv W)
  change Hid (∀ W, Calls Tryd.prog 54 _ _ _) at HI
  go_enter Tryd.func39, Tryd.ntmps39
  go_wp2_with fail
  refine (HI.out _).mono ?_
  rintro e w1 ⟨rfl, rfl⟩
  go_wp2
  go_ret
  exact ⟨rfl, rfl⟩
theorem delete_calls (base B : Nat) (v : Value) (zs : List Int) (n : Int) (w : World) (hown : w.ownsRow base 2 1 v zs.length (ints zs)) (hB : B < w.heap.size) (hne : v.ownBlock ≠ some B) (hc : w.cell? ⟨B, 1, none⟩ = some (.int .i64 n)) (hz : zs.length ≤ 1000000) :
    Calls Tryd.prog 39 #[v, .func (.func 40) #[] #[.pointer (some ⟨B, 0, none⟩)]] w fun e w' => ∃ v', e = .returned v' ∧ w'.ownsRow base 2 1 v' (delL n zs).length (ints (delL n zs)) ∧ w.grownBy w' v.ownBlock ∧ v'.ownBlock = v.ownBlock := by
  rcases own_holds hown with ⟨rfl, h0, rfl⟩ | ⟨g, cap, rfl, hg, hgl, hl, hcap, hH⟩
  · refine (delete_nil _ w).mono ?_
    rintro e w' ⟨rfl, rfl⟩
    exact ⟨_, rfl, hown, ⟨rfl, rfl, rfl, Nat.le_refl _, fun _ _ _ => rfl⟩, rfl⟩
  · have hBg : B ≠ g := fun e => hne (by rw [e]; rfl)
    have eg : ∀ args w, (callFunc 40 args).run Tryd.prog w = .ok (.enter 40 args) w := enters_of Tryd.func40 (by kernel_rfl) rfl
    have hcon := AnyE.slices_DeleteFunc Tryd.lDel (Value.int .i64) (fun _ => rfl) (fun x => x == n) 40 #[.pointer (some ⟨B, 0, none⟩)] eg 0 Tryd.zeroValue2 g 0 cap zs.toArray w
      (fun W x hb => gives40 n x B W ((hb.cell (p := ⟨B, 1, none⟩) hB).trans hc))
      (fun q os dk x _ => gives40 n x B _ (by
        unfold Go.Proofs.sortWorld
        rw [Go.Sort.cell?_grow _ _ _ (by show B < (Go.Sort.putRow _ _ _ _ _).heap.size; rw [Go.Sort.size_putRow]; exact hB), Go.Sort.cell?_putRow_other _ _ g 0 _ _ (Or.inl hBg)]
        exact hc)) hH (by simp; omega) (by simpa using hcap)
    change Calls Tryd.prog 39 _ _ _ at hcon
    refine hcon.mono ?_
    rintro e w' ⟨rfl, q, rfl⟩
    have hle : (delL n zs).length ≤ zs.length := List.length_filter_le _ _
    have hp := put_own (q := q) hown (((zs.toArray.toList.filter fun x => !(x == n)) ++ List.replicate (zs.toArray.size - (zs.toArray.toList.filter fun x => !(x == n)).length) 0).toArray) (by
      have : (zs.filter fun x => !(x == n)).length ≤ zs.length := List.length_filter_le _ _
      simp only [List.size_toArray, List.length_append, List.length_replicate]
      omega) (delL n zs).length hle
    refine ⟨_, rfl, ?_, hp.2, rfl⟩
    have h2 := hp.1
    have h3 : List.take (delL n zs).length ((delL n zs) ++ List.replicate (zs.toArray.size - (delL n zs).length) (0 : Int)) = delL n zs := List.take_left
    simp only at h2
    have h4 : ints (List.take (delL n zs).length ((zs.toArray.toList.filter fun x => !(x == n)) ++ List.replicate (zs.toArray.size - (zs.toArray.toList.filter fun x => !(x == n)).length) (0 : Int))) = ints (delL n zs) := congrArg ints h3
    rw [h4] at h2
    exact h2
/-- what lives behind one event more -/
def liveStep (out : List Int) (e : S26) : List Int := if e.f0 = 1 then delL e.f1 out ++ [e.f1] else if e.f0 = 2 then delL e.f1 out else out
def liveF (l : List S26) : List Int := l.foldl liveStep []
theorem liveF_snoc (l : List S26) (e : S26) : liveF (l ++ [e]) = liveStep (liveF l) e := by simp [liveF]
theorem liveStep_len (out : List Int) (e : S26) : (liveStep out e).length ≤ out.length + 1 := by
  have h : (delL e.f1 out).length ≤ out.length := List.length_filter_le _ _
  unfold liveStep
  split
  · simp
    exact h
  · split
    · omega
    · omega
theorem fold_len : ∀ (l : List S26) (out : List Int), (l.foldl liveStep out).length ≤ out.length + l.length
  | [], out => by simp
  | e :: l, out => by
    have h1 := fold_len l (liveStep out e)
    have h2 := liveStep_len out e
    simp only [List.foldl_cons, List.length_cons]
    omega
theorem liveF_len (l : List S26) : (liveF l).length ≤ l.length := by
  have := fold_len l []
  simpa [liveF] using this
def trace_Live.f (l : List S26) : Option (List Int) := if l.length ≤ 100000 then some (liveF l) else none
theorem R2_of_owns {W : World} {base : Nat} {v : Value} {l : List Int} (h : W.ownsRow base 2 1 v l.length (ints l)) : Kd.R (Kd.int .i64) 2 W base (fun _ => True) v l :=
  ⟨fun _ _ => trivial, ints l, h, Kd.reps_scalar (enc := Value.int .i64) l⟩
set_option maxHeartbeats 4000000 in
set_option maxRecDepth 100000 in
theorem trace_Live.calls (A0 : Option Addr) (c0 : Nat) (l0 : List S26) (r : List Int) (w : World) (hr0 : Kd.C k26 w A0 l0.length l0) (hc0 : l0.length ≤ c0) (h : trace_Live.f l0 = some r) :
    Calls Tryd.prog 21 #[.slice A0 l0.length c0] w fun e w' => ∃ v0_ : Value, e = .returned (v0_) ∧ Kd.R (Kd.int .i64) 2 w' w.heap.size (fun _ => True) v0_ r ∧ Below w.heap.size w w' := by
  obtain ⟨hh, rfl⟩ := of_guard h
  have HI := Aside0.mk hh
  have HR := Aside0.mk hr0
  obtain ⟨i0, hi, hz0, hz1, hz2⟩ := info_parts info2
  have HF := Lib.hid (And.intro hi (And.intro hz0 (And.intro hz1 hz2)))
  clear h hh hr0 hi hz0 hz1 hz2
  go_enter Tryd.func21, Tryd.ntmps21
  go_wp2_with fail
  go_loopg [3, 8] l0.length (fun kq v3 v8 w' => ∃ x : Nat, v8 = .int .i64 (x : Int) ∧ Aside0 (x + kq = l0.length) ∧ Aside0 (w'.ownsRow w.heap.size 2 1 v3 (liveF (l0.take x)).length (ints (liveF (l0.take x)))) ∧ Aside0 (Below w.heap.size w w'))
  case atStart => exact ⟨0, rfl, ⟨by omega⟩, ⟨World.ownsRow_nil _ _ _ _⟩, ⟨Below.refl _ _⟩⟩
  case round =>
    obtain ⟨x, rfl, HX, HO, HB⟩ := hrel
    obtain ⟨vA, vc, hv⟩ := own_slice HO.out
    subst hv
    cases gk with
    | zero =>
      have cx : decide (x < l0.length) = false := decide_eq_false (by have := HX.out; omega)
      have hx : l0.take x = l0 := List.take_of_length_le (by have := HX.out; omega)
      have e0 : liveF (l0.take x) = liveF l0 := by rw [hx]
      have HE := Lib.hid e0
      clear hx e0
      go_wp2
      go_ret
      exact ⟨_, rfl, (by rw [← HE.out]; exact R2_of_owns HO.out), HB.out⟩
    | succ k1 =>
      have hxl : x < l0.length := by have := HX.out; omega
      have cx : decide (x < l0.length) = true := decide_eq_true hxl
      have cx' : decide ((x : Int) < (l0.length : Int)) = true := decide_eq_true (by omega)
      have wx : IntKind.i64.wrap ((x : Int) + 1) = ((x + 1 : Nat) : Int) := by rw [i64_w]; unfold wrap64; have := HI.out; omega
      have hT := take_snoc l0 x hxl
      obtain ⟨ad, ea, hx0, hx1⟩ := at_T26 (Kd.C_below HR.out HB.out) (x : Int) (by omega) (by omega)
      cases ea
      simp only [Int.toNat_natCast] at hx0 hx1
      generalize rd_T26 l0 (x : Int) = t at *
      have p2 : (0 ≤ (x : Int)) = True := eq_true (by omega)
      have p3 : ((x : Int) < (l0.length : Int)) = True := eq_true (by omega)
      have p1 := eq_true hxl
      have hol : (liveF (l0.take x)).length ≤ l0.length := by
        have h1 := liveF_len (l0.take x)
        rw [List.length_take] at h1
        omega
      have HOL := Lib.hid hol
      obtain ⟨out, hout⟩ : ∃ out, liveF (l0.take x) = out := ⟨_, rfl⟩
      rw [hout] at HO HOL ⊢
      obtain ⟨n, hn⟩ : ∃ n, out.length = n := ⟨_, rfl⟩
      rw [hn] at HO HOL ⊢
      have HLn := Lib.hid hn
      have HNe : Hid ((Value.slice vA n vc).ownBlock ≠ some wr.heap.size) := Lib.hid (fun e => absurd (HO.out.lt _ e).2 (Nat.lt_irrefl _))
      clear hol hxl hn
      by_cases h1 : t.f0 = 1
      · have HT := Lib.hid (show liveF (l0.take (x + 1)) = delL t.f1 out ++ [t.f1] by rw [hT, liveF_snoc, hout]; unfold liveStep; rw [if_pos h1])
        clear hT
        rw [h1] at hx0
        clear h1 hout
        go_wp2_with fail
        refine at_world (fun W => Blk W wr.heap.size #[.int .i64 1, .int .i64 t.f1] 26 ∧ Aside0 (W.ownsRow w.heap.size 2 1 (.slice vA n vc) n (ints out)) ∧ Aside0 (Below w.heap.size w W)) ⟨Blk.new _ _ _, ⟨own_below HO.out (below_alloc (Below.refl _ _) _)⟩, ⟨below_alloc HB.out _⟩⟩ ?_
        clear HO HB hx0 hx1
        rintro W ⟨B5, HO, HB⟩
        generalize wr.heap.size = g5 at *
        have hln := HLn.out
        refine (delete_calls w.heap.size g5 _ out t.f1 W (by rw [hln]; exact HO.out) B5.lt HNe.out B5.cells2.1.2 (by have := HI.out; have := HOL.out; omega)).mono ?_
        rintro e w1 ⟨v1, rfl, hown1, hgr, hob⟩
        have hne5 : some g5 ≠ (Value.slice vA n vc).ownBlock := fun e => HNe.out e.symm
        have HB1 : Aside0 (Below w.heap.size w w1) := ⟨HB.out.grown hgr HB.out.size (fun k hk => (HO.out.lt k hk).1)⟩
        replace B5 := blk_kept B5 hgr hne5
        obtain ⟨vA1, vc1, rfl⟩ := own_slice hown1
        have HO1 := Lib.hid hown1
        clear hown1 hgr HO HB hln hob
        have e5 := B5.cells2.1.1
        have e6 := B5.cells2.1.2
        obtain ⟨hi, hz0, hz1, hz2⟩ := HF.out
        have hdl : (delL t.f1 out).length ≤ out.length := List.length_filter_le _ _
        have HDl := Lib.hid hdl
        clear hdl
        generalize delL t.f1 out = dl at *
        obtain ⟨m, hm⟩ : ∃ m, dl.length = m := ⟨_, rfl⟩
        rw [hm] at HO1 HDl ⊢
        have HM := Lib.hid hm
        clear hm
        go_wp2_with (at_builtin; refine wpList_append_own _ rfl _ _ 36 rfl w.heap.size 2 i0 (.int .i64 0) 1 8 Tryd.underlying36 hi hz0 hz1 hz2 rfl (by decide) _ _ _ rfl (HO1.out.alloc _) ⟨w1.heap.size, 0, none⟩ 1 1 [.int .i64 t.f1] rfl rfl ?c1 ?c2 ?c3 ?c4 ?c5 ?_)
        case c1 => exact cell_one_new _ _ _
        case c2 => simp [Value.oneCell']
        case c3 => have := HI.out; have := HOL.out; have := HDl.out; have := HLn.out; unfold maxLen; omega
        case c4 => have := HI.out; have := HOL.out; have := HDl.out; have := HLn.out; omega
        case c5 => have := HB1.out.size; simp; omega
        intro v2 w2 hown2 hgr2 _
        have HO2 := Lib.hid hown2
        have HB2 : Aside0 (Below w.heap.size w w2) := ⟨(below_alloc HB1.out _).grown hgr2 (below_alloc HB1.out _).size (fun k hk => (HO1.out.lt k hk).1)⟩
        clear hown2 hgr2 e5 e6
        go_wp2_with fail
        go_roundg k1
        case measure => omega
        case rel =>
          refine ⟨x + 1, by simp [wx], ⟨by have := HX.out; omega⟩, ⟨?_⟩, ⟨HB2.out⟩⟩
          rw [HT.out]
          simpa [HM.out] using HO2.out
      by_cases h2 : t.f0 = 2
      · have HT := Lib.hid (show liveF (l0.take (x + 1)) = delL t.f1 out by rw [hT, liveF_snoc, hout]; unfold liveStep; rw [if_neg h1, if_pos h2])
        clear hT
        rw [h2] at hx0
        clear h1 h2 hout
        go_wp2_with fail
        refine at_world (fun W => Blk W wr.heap.size #[.int .i64 2, .int .i64 t.f1] 26 ∧ Aside0 (W.ownsRow w.heap.size 2 1 (.slice vA n vc) n (ints out)) ∧ Aside0 (Below w.heap.size w W)) ⟨Blk.new _ _ _, ⟨own_below HO.out (below_alloc (Below.refl _ _) _)⟩, ⟨below_alloc HB.out _⟩⟩ ?_
        clear HO HB hx0 hx1
        rintro W ⟨B5, HO, HB⟩
        generalize wr.heap.size = g5 at *
        have hln := HLn.out
        refine (delete_calls w.heap.size g5 _ out t.f1 W (by rw [hln]; exact HO.out) B5.lt HNe.out B5.cells2.1.2 (by have := HI.out; have := HOL.out; omega)).mono ?_
        rintro e w1 ⟨v1, rfl, hown1, hgr, hob⟩
        have hne5 : some g5 ≠ (Value.slice vA n vc).ownBlock := fun e => HNe.out e.symm
        have HB1 : Aside0 (Below w.heap.size w w1) := ⟨HB.out.grown hgr HB.out.size (fun k hk => (HO.out.lt k hk).1)⟩
        replace B5 := blk_kept B5 hgr hne5
        obtain ⟨vA1, vc1, rfl⟩ := own_slice hown1
        have HO1 := Lib.hid hown1
        clear hown1 hgr HO HB hln hob
        have e5 := B5.cells2.1.1
        have e6 := B5.cells2.1.2
        clear HF
        go_wp2_with fail
        go_roundg k1
        case measure => omega
        case rel =>
          refine ⟨x + 1, by simp [wx], ⟨by have := HX.out; omega⟩, ⟨?_⟩, ⟨HB1.out⟩⟩
          rw [HT.out]
          exact HO1.out
      · have HT := Lib.hid (show liveF (l0.take (x + 1)) = out by rw [hT, liveF_snoc, hout]; unfold liveStep; rw [if_neg h1, if_neg h2])
        have q1 : (t.f0 == 1) = false := beq_eq_false_iff_ne.2 h1
        have q2 : (t.f0 == 2) = false := beq_eq_false_iff_ne.2 h2
        have q3 : (t.f0 != 1) = true := bne_iff_ne.2 h1
        have q4 : (t.f0 != 2) = true := bne_iff_ne.2 h2
        clear hT hout h1 h2 HF
        go_wp2_with fail
        go_roundg k1
        case measure => omega
        case rel =>
          refine ⟨x + 1, by simp [wx], ⟨by have := HX.out; omega⟩, ⟨?_⟩, ⟨below_alloc HB.out _⟩⟩
          rw [HT.out, HLn.out]
          exact own_below HO.out (below_alloc (Below.refl _ _) _)
end Go.Proofs.YtlkppkmfpinocaaDoor.PT
