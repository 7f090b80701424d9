/- Package code: a reader's count: its iterator's contract, and the law on a range over it. -/
import Derived.Test.YtoiakaagbgfocaaCoRead
namespace Go.Proofs.Ytoiakaagbgfocaa.PC
open Go.RowKit Go.Proofs.YtoiakaagbgfocaaW.PrintWords Go.Proofs.YtoiakaagbgfocaaW.PrintLast Go.Proofs.YtoiakaagbgfocaaW.PrintMore
open Go.Proofs.Ytoiakaagbgfocaa.RG
set_option linter.unusedVariables false
set_option linter.unusedSimpArgs false
attribute [local go_sem] Oper.semAt_some

/-- the reader's error, in its box -/
def ErrIs (B : Nat) (e : Int) (W : World) : Prop := ∃ A l c, Blk W B #[.slice A l c, .int .i64 e] 62
theorem ErrIs.one {B : Nat} {e e' : Int} {W : World} (h : ErrIs B e W) (h' : ErrIs B e' W) : e = e' := by
  obtain ⟨A, l, c, hb⟩ := h
  obtain ⟨A', l', c', hb'⟩ := h'
  have h1 := hb.out
  rw [hb'.out] at h1
  injection h1 with h1
  injection h1 with h1
  simp at h1
  exact h1.2.symm
theorem RdAt.err {w0 W : World} {B : Nat} {l : List Int} {e : Int} (h : RdAt w0 W B l e) : ErrIs B e W := by
  obtain ⟨A, c, hb, _⟩ := h
  exact ⟨A, _, c, hb⟩
/-- what the iterator reads: its number, its reader, the reader's error -/
def CntOk (N P B : Nat) (nn : Int) (W : World) : Prop := Blk W N #[.int .i64 nn] 2 ∧ Blk W P #[.pointer (some ⟨B, 0, none⟩)] 60 ∧ ∃ e, ErrIs B e W
set_option maxHeartbeats 8000000 in
set_option maxRecDepth 100000 in
theorem count1_in (n l N P B : Nat) (nn : Int) (hnn : nn ≤ 9223372036854775807) (J : Nat → World → Prop) (hX : ∀ k W, J k W → CntOk N P B nn W)
    (hY : ∀ k W, J k W → (k : Int) < nn → ErrIs B 0 W → YieldAt Fence.wide 0 Try.prog l #[] W fun e W' => e = .returned (.bool true) ∧ J (k + 1) W') (W : World) (hJ : J 0 W) :
    CallsIn Fence.wide n Try.prog 60 #[.func (.yield l) #[] #[], .pointer (some ⟨N, 0, none⟩), .pointer (some ⟨P, 0, none⟩)] W fun e W' => (∃ v, e = .returned v) ∧ ∃ k, J k W' ∧ (nn ≤ (k : Int) ∨ ∃ e, e ≠ 0 ∧ ErrIs B e W') := by
  refine callsIn_of_wp Try.func60 rfl trivial ?_ rfl
  simp only [Try.ntmps60, List.size_toArray, List.length_cons, List.length_nil, Nat.reduceAdd, Nat.reduceSub, Array.replicate_succ, Array.replicate_zero, List.push_toArray, List.append_toArray, List.nil_append, List.cons_append]
  have HX := Lib.hid hX
  have HY := Lib.hid hY
  have HJ := Lib.hid hJ
  have HN := Lib.hid hnn
  clear hX hY hJ hnn
  gi_wp2_with fail
  gi_loopw [4] (fun v4 V => ∃ k : Nat, v4 = .int .i64 (k : Int) ∧ Aside0 (J k V)) (fun v4 _ => (nn - intOf v4).toNat)
  case atStart => exact ⟨0, rfl, ⟨HJ.out⟩⟩
  case round =>
    clear HJ
    obtain ⟨k, rfl, HJ⟩ := hrel
    obtain ⟨bn, bp, e, he⟩ := HX.out k wr HJ.out
    have HE := Lib.hid he
    obtain ⟨A, ll, c, hb⟩ := he
    obtain ⟨cn, -⟩ := bn.cells1
    obtain ⟨cp, -⟩ := bp.cells1
    obtain ⟨⟨cb0, cb1⟩, -⟩ := hb.cells2
    clear bn bp hb
    by_cases hk : (k : Int) < nn
    · have HK := Lib.hid hk
      have t1 : decide ((k : Int) < nn) = true := decide_eq_true hk
      have wk : IntKind.i64.wrap ((k : Int) + 1) = (k : Int) + 1 := by rw [i64_w]; unfold wrap64; have := HN.out; omega
      clear hk
      by_cases h0 : e = 0
      · subst h0
        obtain ⟨fn0, tm0, as0, bd0, hy0, hR0⟩ := yield_any (m := n - 1) (HY.out k wr HJ.out HK.out HE.out)
        have HR0 := Lib.hid hR0
        clear hR0
        gi_wp2
        refine ⟨(fun h => (by cases h)), HR0.out.mono ?_⟩
        rintro e V ⟨rfl, hj⟩
        have HJ2 := Aside0.mk hj
        clear hj HR0 hy0 cn cp cb0 cb1 HJ HE
        gi_wp2
        go_roundw
        case rel => exact ⟨k + 1, by simp, HJ2⟩
        case measure => have := HK.out; simp [intOf]; omega
      · have t2 : (e == 0) = false := by simp [h0]
        have HE0 := Lib.hid h0
        clear h0
        gi_wp2
        all_goals
          repeat (refine ⟨(fun f h => by cases h), ?_⟩; gi_wp2)
          go_end0
          exact ⟨⟨_, rfl⟩, k, HJ.out, .inr ⟨e, HE0.out, HE.out⟩⟩
    · have t1 : decide ((k : Int) < nn) = false := decide_eq_false hk
      have HK := Lib.hid hk
      clear hk
      gi_wp2
      all_goals
        repeat (refine ⟨(fun f h => by cases h), ?_⟩; gi_wp2)
        go_end0
        exact ⟨⟨_, rfl⟩, k, HJ.out, .inl (by have := HK.out; omega)⟩
theorem wpIn_any {l n m : Nat} {P : Program} {c : Code} {Q : Exit → Act → World → Prop} {a : Act} {W : World} (h : c.wpIn (Fence.wide.inRound l) n P Q a W) : c.wpIn (Fence.wide.inRound l) m P Q a W :=
  fun b k cs hro hb _ => h b k cs hro hb (room_wide _)
/-- a round of such a range leaves what it may -/
def cntPost (B : Nat) (I : Nat → World → Prop) (k : Nat) (W : World) : Exit → Act → World → Prop
  | .normal, _, W' => KeepsFrom B W W' ∧ I k W'
  | _, _, _ => False
/-- the iterator's own moves: new blocks, and what is no cells beyond w -/
theorem own_put {I : Nat → World → Prop} {B : Nat} (h : OwnT (fun _ => False) B I) {k : Nat} {W : World} {l : Nat} {o : Obj} (o' : Obj) (hi : I k W) (hB : B ≤ l) (ho : W.heap[l]? = some o) (hc : o.isCells = false) : I k (W.putObj l o') := h.putObj o' hi hB ho hc
theorem errs_put {B l k : Nat} {nn : Int} {W : World} {o o' : Loop} (hl : W.heap[l]? = some (.loop o)) (hw : nn ≤ (k : Int) ∨ ∃ e, e ≠ 0 ∧ ErrIs B e W) : nn ≤ (k : Int) ∨ ∃ e, e ≠ 0 ∧ ErrIs B e (W.putObj l (.loop o')) :=
  hw.imp id (fun ⟨e, h0, A, ll, c, hb⟩ => ⟨e, h0, A, ll, c, ⟨(World.putObj_heap_other (fun e => by
    have hb2 := hb.out
    rw [e, hl] at hb2
    cases hb2)).trans hb.out⟩⟩)
set_option maxHeartbeats 1000000 in
/-- a range over a count, not within another one's round -/
theorem range_cnt_out {F : Fence} {n : Nat} {g : Operand} {assign body : Code} {Q : Exit → Act → World → Prop} {a : Act} {w : World} (hF : F = Fence.wide) (h1 : 1 ≤ n) {N P B : Nat} {nn : Int} (hnn : nn ≤ 9223372036854775807)
    (hg : a.eval g = .func (.func 60) #[] #[.pointer (some ⟨N, 0, none⟩), .pointer (some ⟨P, 0, none⟩)])
    (I : Nat → World → Prop) (hI : OwnT (fun _ => False) w.heap.size I) (hX : ∀ k W, I k W → CntOk N P B nn W) (h0 : I 0 w)
    (hassign : ∀ (l k : Nat) (W : World) (K : Act → World → Prop), I k W → K { tmps := a.tmps, defers := [] } W → assign.wpIn (Fence.wide.inRound l) (n - 1 - 1) Try.prog (Exit.then K (fun _ _ _ => False)) { tmps := a.tmps, defers := [] } W)
    (hbody : ∀ (l k : Nat) (W : World), w.heap.size ≤ l → (∃ r, W.heap[l]? = some (.loop r)) → I k W → (k : Int) < nn → ErrIs B 0 W → body.wpIn (Fence.wide.inRound l) (n - 1 - 1) Try.prog (cntPost w.heap.size I (k + 1) W) { tmps := a.tmps, defers := [] } W)
    (hdone : ∀ (D k : Nat) (W : World), w.heap.size ≤ D → I k W → (nn ≤ (k : Int) ∨ ∃ e, e ≠ 0 ∧ ErrIs B e W) → W.heap[D]? = some (.deferred (some [])) → Q .normal { a with defers := { target := .collected D, args := #[] } :: a.defers } W) :
    (Code.rangeFunc g #[] assign body).wpIn F n Try.prog Q a w := by
  subst hF
  refine wpIn_rangeFunc ?_
  intro fn hfn
  obtain ⟨rec, hrec⟩ : ∃ rec : LoopState → Option Code → Loop, rec = fun st pe => { state := st, pending := pe, fn, tmps := a.tmps, params := #[], assign, body, defers := w.heap.size } := ⟨_, rfl⟩
  obtain ⟨W1, hW1⟩ : ∃ W1, (w.alloc (.deferred (some []))).alloc (.loop (rec .ready none)) = W1 := ⟨_, rfl⟩
  have hL1 : W1.heap[w.heap.size + 1]? = some (.loop (rec .ready none)) := by
    rw [← hW1]
    have := World.alloc_heap_new (w.alloc (.deferred (some []))) (.loop (rec .ready none))
    rwa [World.size_alloc] at this
  have hK1 : W1.heap[w.heap.size]? = some (.deferred (some [])) := by
    rw [← hW1]
    exact (Below.heap_alloc _ _ _ (by simp)).trans (World.alloc_heap_new w _)
  have hI1 : I 0 W1 := by rw [← hW1]; exact hI.alloc _ (hI.alloc _ h0)
  have hs2 : W1.heap.size = w.heap.size + 2 := by rw [← hW1]; simp
  refine ⟨w.heap.size + 1, [{ target := .collected w.heap.size, args := #[] }], W1, { target := .fn (.func 60) #[.pointer (some ⟨N, 0, none⟩), .pointer (some ⟨P, 0, none⟩)], args := #[.func (.yield (w.heap.size + 1)) #[] #[]] }, W1, 60,
    #[.func (.yield (w.heap.size + 1)) #[] #[]] ++ #[.pointer (some ⟨N, 0, none⟩), .pointer (some ⟨P, 0, none⟩)], W1, ?_, ?_, ?_, ?_, fun _ => h1, ?_⟩
  · rw [← hW1, hrec]
    exact run_enterLoop_outer _ _ _ _ _
  · simp only [resolve, hg]
    simp [go_sem]
  · intro f' hf'
    simp [Target.leads] at hf'
    subst hf'
    trivial
  · have eg : ∀ args w, (callFunc 60 args).run Try.prog w = .ok (.enter 60 args) w := enters_of Try.func60 (by kernel_rfl) rfl
    simp [invoke, go_sem, eg]
  · refine ((count1_in _ (w.heap.size + 1) N P B nn hnn
      (fun k W => I k W ∧ W.heap[(w.heap.size + 1)]? = some (.loop (rec .ready none)) ∧ W.heap[w.heap.size]? = some (.deferred (some [])))
      (fun k W h => hX k W h.1) ?_ W1 ⟨hI1, hL1, hK1⟩)).mono ?_
    · rintro k W ⟨hi, hl, hk⟩ hlt0 hE0
      have hlt : (w.heap.size + 1) < W.heap.size := (Array.getElem?_eq_some_iff.1 hl).1
      have hy := run_yield (P := Try.prog) (args := #[]) hl (by rw [hrec]; rfl)
      rw [hrec] at hy
      have hz : (((#[] : Array Tmp).zip (#[] : Array Value)).foldl (fun tmps (t, a) => tmps.setIfInBounds t a) a.tmps) = a.tmps := by simp
      refine ⟨fn, a.tmps, assign, body, by rw [← hz]; exact hy, roundIn_of_wpIn (F := Fence.wide) hfn (wpIn_any (hassign _ k W _ hi ?_))⟩
      clear hy hz
      refine ⟨_, run_beginRound hl (by rw [hrec]), ?_⟩
      have hl2 : (W.putObj (w.heap.size + 1) (.loop { rec .ready none with state := .busy })).heap[(w.heap.size + 1)]? = some (.loop { rec .ready none with state := .busy }) := World.putObj_heap_same hlt
      have hk2 : (W.putObj (w.heap.size + 1) (.loop { rec .ready none with state := .busy })).heap[w.heap.size]? = some (.deferred (some [])) := (World.putObj_heap_other (by omega)).trans hk
      have hE2 : ErrIs B 0 (W.putObj (w.heap.size + 1) (.loop { rec .ready none with state := .busy })) := by
        obtain ⟨A, ll, c, hb⟩ := hE0
        refine ⟨A, ll, c, ⟨(World.putObj_heap_other (fun e => ?_)).trans hb.out⟩⟩
        have hb2 := hb.out
        rw [e, hl] at hb2
        cases hb2
      refine wpIn_any (wpIn_mono (hbody _ k _ (by omega) ⟨_, hl2⟩ (hI.putObj _ hi (by omega) hl rfl) hlt0 hE2) ?_)
      rintro e a3 W3 hp
      cases e with
      | normal =>
        obtain ⟨hk3, hi3⟩ := hp
        have hl3 := hk3.same _ _ (by omega) hl2 rfl
        have hr := run_endRound (P := Try.prog) none hl3
        rw [hrec] at hr
        refine ⟨_, _, hr, rfl, hI.putObj _ hi3 (by omega) hl3 rfl, ?_, (World.putObj_heap_other (by omega)).trans (hk3.same _ _ (Nat.le_refl _) hk2 rfl)⟩
        rw [hrec]
        exact World.putObj_heap_same (Array.getElem?_eq_some_iff.1 hl3).1
      | ret => exact hp.elim
      | exit id => exact hp.elim
      | goto t => exact hp.elim
      | panic ch => exact hp.elim
      | outgrown => exact hp.elim
    · rintro e W2 ⟨⟨v, rfl⟩, k, ⟨hi, hl, hk⟩, hw⟩
      have hend := run_endLoop (P := Try.prog) hl (by rw [hrec]; simp)
      rw [hrec] at hend
      exact ⟨none, _, hend, hdone _ k _ (Nat.le_refl _) (hI.putObj _ hi (by omega) hl rfl) (errs_put hl hw) ((World.putObj_heap_other (by omega)).trans hk)⟩
set_option maxHeartbeats 1000000 in
/-- a range over a count, within the round of another one -/
theorem range_cnt_in {F : Fence} {n : Nat} {g : Operand} {assign body : Code} {Q : Exit → Act → World → Prop} {a : Act} {w : World} {l₀ : Nat} {r₀ : Loop} (hl₀ : w.heap[l₀]? = some (.loop r₀)) (hF : F = Fence.wide.inRound l₀) (h1 : 1 ≤ n) {N P B : Nat} {nn : Int} (hnn : nn ≤ 9223372036854775807)
    (hg : a.eval g = .func (.func 60) #[] #[.pointer (some ⟨N, 0, none⟩), .pointer (some ⟨P, 0, none⟩)])
    (I : Nat → World → Prop) (hI : OwnT (fun _ => False) w.heap.size I) (hX : ∀ k W, I k W → CntOk N P B nn W) (h0 : I 0 w)
    (hassign : ∀ (l k : Nat) (W : World) (K : Act → World → Prop), I k W → K { tmps := a.tmps, defers := [] } W → assign.wpIn (Fence.wide.inRound l) (n - 1 - 1) Try.prog (Exit.then K (fun _ _ _ => False)) { tmps := a.tmps, defers := [] } W)
    (hbody : ∀ (l k : Nat) (W : World), w.heap.size ≤ l → (∃ r, W.heap[l]? = some (.loop r)) → I k W → (k : Int) < nn → ErrIs B 0 W → body.wpIn (Fence.wide.inRound l) (n - 1 - 1) Try.prog (cntPost w.heap.size I (k + 1) W) { tmps := a.tmps, defers := [] } W)
    (hdone : ∀ (k : Nat) (W : World), I k W → (nn ≤ (k : Int) ∨ ∃ e, e ≠ 0 ∧ ErrIs B e W) → Q .normal a W) :
    (Code.rangeFunc g #[] assign body).wpIn F n Try.prog Q a w := by
  subst hF
  refine wpIn_rangeFunc ?_
  intro fn hfn
  obtain ⟨rec, hrec⟩ : ∃ rec : LoopState → Option Code → Loop, rec = fun st pe => { state := st, pending := pe, fn, tmps := a.tmps, params := #[], assign, body, defers := r₀.defers } := ⟨_, rfl⟩
  obtain ⟨W1, hW1⟩ : ∃ W1, w.alloc (.loop (rec .ready none)) = W1 := ⟨_, rfl⟩
  have hL1 : W1.heap[w.heap.size]? = some (.loop (rec .ready none)) := by rw [← hW1]; exact World.alloc_heap_new w _
  have hI1 : I 0 W1 := by rw [← hW1]; exact hI.alloc _ h0
  have hs2 : W1.heap.size = w.heap.size + 1 := by rw [← hW1]; simp
  refine ⟨w.heap.size, [], W1, { target := .fn (.func 60) #[.pointer (some ⟨N, 0, none⟩), .pointer (some ⟨P, 0, none⟩)], args := #[.func (.yield w.heap.size) #[] #[]] }, W1, 60,
    #[.func (.yield w.heap.size) #[] #[]] ++ #[.pointer (some ⟨N, 0, none⟩), .pointer (some ⟨P, 0, none⟩)], W1, ?_, ?_, ?_, ?_, fun _ => h1, ?_⟩
  · rw [← hW1, hrec]
    exact run_enterLoop_inner hl₀ _ _ _ _ _
  · simp only [resolve, hg]
    simp [go_sem]
  · intro f' hf'
    simp [Target.leads] at hf'
    subst hf'
    trivial
  · have eg : ∀ args w, (callFunc 60 args).run Try.prog w = .ok (.enter 60 args) w := enters_of Try.func60 (by kernel_rfl) rfl
    simp [invoke, go_sem, eg]
  · refine (CallsIn.inRound l₀ (count1_in _ w.heap.size N P B nn hnn
      (fun k W => I k W ∧ W.heap[w.heap.size]? = some (.loop (rec .ready none)))
      (fun k W h => hX k W h.1) ?_ W1 ⟨hI1, hL1⟩)).mono ?_
    · rintro k W ⟨hi, hl⟩ hlt0 hE0
      have hlt : w.heap.size < W.heap.size := (Array.getElem?_eq_some_iff.1 hl).1
      have hy := run_yield (P := Try.prog) (args := #[]) hl (by rw [hrec]; rfl)
      rw [hrec] at hy
      have hz : (((#[] : Array Tmp).zip (#[] : Array Value)).foldl (fun tmps (t, a) => tmps.setIfInBounds t a) a.tmps) = a.tmps := by simp
      refine ⟨fn, a.tmps, assign, body, by rw [← hz]; exact hy, roundIn_of_wpIn (F := Fence.wide) hfn (wpIn_any (hassign _ k W _ hi ?_))⟩
      clear hy hz
      refine ⟨_, run_beginRound hl (by rw [hrec]), ?_⟩
      have hl2 : (W.putObj w.heap.size (.loop { rec .ready none with state := .busy })).heap[w.heap.size]? = some (.loop { rec .ready none with state := .busy }) := World.putObj_heap_same hlt
      have hE2 : ErrIs B 0 (W.putObj w.heap.size (.loop { rec .ready none with state := .busy })) := by
        obtain ⟨A, ll, c, hb⟩ := hE0
        refine ⟨A, ll, c, ⟨(World.putObj_heap_other (fun e => ?_)).trans hb.out⟩⟩
        have hb2 := hb.out
        rw [e, hl] at hb2
        cases hb2
      refine wpIn_any (wpIn_mono (hbody _ k _ (by omega) ⟨_, hl2⟩ (hI.putObj _ hi (by omega) hl rfl) hlt0 hE2) ?_)
      rintro e a3 W3 hp
      cases e with
      | normal =>
        obtain ⟨hk3, hi3⟩ := hp
        have hl3 := hk3.same _ _ (by omega) hl2 rfl
        have hr := run_endRound (P := Try.prog) none hl3
        rw [hrec] at hr
        refine ⟨_, _, hr, rfl, hI.putObj _ hi3 (by omega) hl3 rfl, ?_⟩
        rw [hrec]
        exact World.putObj_heap_same (Array.getElem?_eq_some_iff.1 hl3).1
      | ret => exact hp.elim
      | exit id => exact hp.elim
      | goto t => exact hp.elim
      | panic ch => exact hp.elim
      | outgrown => exact hp.elim
    · rintro e W2 ⟨⟨v, rfl⟩, k, ⟨hi, hl⟩, hw⟩
      have hend := run_endLoop (P := Try.prog) hl (by rw [hrec]; simp)
      rw [hrec] at hend
      exact ⟨none, _, hend, hdone k _ (hI.putObj _ hi (Nat.le_refl _) hl rfl) (errs_put hl hw)⟩
end Go.Proofs.Ytoiakaagbgfocaa.PC
