/- Appends of whole rows to a row of the call's own, as steps of a drawn region in which a box is made at some time. -/
import Derived.Test.YtmgkejobolgkmaaGreatDoorPaSameC
import Derived.Deep.RegionHeldLaw
import Derived.Deep.RegionLawGrows
import Derived.Deep.Upon
import Derived.Laws.AppendOwn
import Derived.RegionTactic
namespace Go.Proofs.YtmgkejobolgkmaaGreatDoor.PL
open Go Go.RowKit Go.Proofs.YtmgkejobolgkmaaGreatDoorW.PrintWords Go.Proofs.YtmgkejobolgkmaaGreatDoorW.PrintLast Go.Proofs.YtmgkejobolgkmaaGreatDoorW.PrintMore
set_option linter.unusedVariables false
set_option linter.unusedSimpArgs false

theorem reps_append {α : Type} {R : α → List Value → Prop} {size : Nat} {ps qs : List α} {cs ds : List Value} (h : Reps R size ps cs) (k : Reps R size qs ds) : Reps R size (ps ++ qs) (cs ++ ds) := by
  refine ⟨by rw [List.length_append, h.1, k.1, List.length_append, Nat.add_mul], fun j q hq => ?_⟩
  rcases Nat.lt_or_ge j ps.length with hj | hj
  · rw [List.getElem?_append_left hj] at hq
    have h1 : j * size + size ≤ cs.length := by rw [h.1, ← Nat.succ_mul]; exact Nat.mul_le_mul_right _ hj
    have h2 := h.2 j q hq
    rw [List.drop_append_of_le_length (by omega), List.take_append_of_le_length (by rw [List.length_drop]; omega)]
    exact h2
  · rw [List.getElem?_append_right hj] at hq
    have h2 := k.2 (j - ps.length) q hq
    have e : (cs ++ ds).drop (j * size) = ds.drop ((j - ps.length) * size) := by
      obtain ⟨i, rfl⟩ : ∃ i, j = ps.length + i := ⟨j - ps.length, by omega⟩
      rw [Nat.add_sub_cancel_left, Nat.add_mul, ← h.1, List.drop_append, List.drop_of_length_le (by omega), List.nil_append, Nat.add_sub_cancel_left]
    rw [e]
    exact h2
theorem reps_one {α : Type} {d : Kd α} {W : World} {ps : List α} {cs : List Value} (h : Reps (d.K W) d.sz ps cs) (hs : 0 < d.sz) : ∀ u ∈ cs, u.oneCell' = true := by
  intro u hu
  obtain ⟨i, hi, rfl⟩ := List.mem_iff_getElem.1 hu
  have hl := h.1
  have hj : i / d.sz < ps.length := by
    rw [Nat.div_lt_iff_lt_mul hs]
    omega
  have hk := d.K_one (h.2 (i / d.sz) _ (List.getElem?_eq_getElem hj))
  apply hk
  have hm : i % d.sz < d.sz := Nat.mod_lt _ hs
  have hd : i / d.sz * d.sz + i % d.sz = i := Nat.div_add_mod' i d.sz
  have h1 : ((cs.drop (i / d.sz * d.sz)).take d.sz)[i % d.sz]? = some cs[i] := by
    rw [List.getElem?_take_of_lt hm, List.getElem?_drop, hd]
    exact List.getElem?_eq_getElem hi
  exact List.mem_of_getElem? h1
theorem below_lower {b b' : Nat} {w w' : World} (h : Below b w w') (hb : b' ≤ b) : Below b' w w' := ⟨h.os, h.tape, h.output, h.size, fun q hq => h.block q (Nat.lt_of_lt_of_le hq hb)⟩
theorem below_then {b : Nat} {w w1 w2 : World} (h : Below b w w1) (k : Below b w1 w2) : Below b w w2 := ⟨k.os.trans h.os, k.tape.trans h.tape, k.output.trans h.output, Nat.le_trans h.size k.size, fun q hq => (k.block q hq).trans (h.block q hq)⟩
/-- a row of the call's own, or nothing yet; its things are read in an older world -/
def AR {α : Type} (d : Kd α) (e : Nat) (W w : World) (base : Nat) (v : Value) (xs : List α) : Prop :=
  ∃ inner, Reps (d.K W) d.sz xs inner ∧ ((∃ ao, v = .slice ao 0 0 ∧ xs = []) ∨ w.ownsRow base e d.sz v xs.length inner)
theorem AR.below {α : Type} {d : Kd α} {e base : Nat} {W w w' : World} {v : Value} {xs : List α} (h : AR d e W w base v xs) (hb : Below w.heap.size w w') : AR d e W w' base v xs := by
  obtain ⟨inner, hr, h⟩ := h
  exact ⟨inner, hr, h.imp id (fun k => pw_own_below k hb)⟩
theorem AR.lower {α : Type} {d : Kd α} {e base base' : Nat} {W w : World} {v : Value} {xs : List α} (h : AR d e W w base v xs) (hb : base' ≤ base) : AR d e W w base' v xs := by
  obtain ⟨inner, hr, h⟩ := h
  exact ⟨inner, hr, h.imp id (fun k => own_weaken k hb)⟩
theorem AR.set {α : Type} {d : Kd α} {e base : Nat} {W w : World} {v : Value} {xs : List α} (h : AR d e W w base v xs) {g t : Nat} {cells : Array Value} (hb : Blk w g cells t) (ht : e ≠ t) (j : Nat) (u : Value) : AR d e W (w.setCell ⟨g, j, none⟩ u) base v xs := by
  obtain ⟨inner, hr, h⟩ := h
  exact ⟨inner, hr, h.imp id (fun k => own_setCell k (own_ne k hb.out ht) u)⟩
theorem AR.reads {α : Type} {d : Kd α} {e base : Nat} {W w : World} {v : Value} {xs : List α} (h : AR d e W w base v xs) (hb : Below W.heap.size W w) : ∃ A c, v = .slice A xs.length c ∧ xs.length ≤ c ∧ Kd.C d w A xs.length xs := by
  obtain ⟨inner, hr, h⟩ := h
  rcases h with ⟨ao, rfl, rfl⟩ | h
  · exact ⟨ao, 0, rfl, Nat.le_refl _, rfl, by simp, fun h => absurd h (by simp)⟩
  · have hr2 : Reps (d.K w) d.sz xs inner := hr.imp_ (fun _ _ hp => d.K_below hb hp)
    obtain ⟨A, c, rfl, hrow⟩ := own_reads_row h hr2 rfl
    exact ⟨A, c, rfl, own_le h, hrow⟩
theorem AR.slice {α : Type} {d : Kd α} {e base : Nat} {W w : World} {v : Value} {xs : List α} (h : AR d e W w base v xs) : ∃ A c, v = .slice A xs.length c ∧ xs.length ≤ c := by
  obtain ⟨inner, hr, h⟩ := h
  rcases h with ⟨ao, rfl, rfl⟩ | h
  · exact ⟨ao, 0, rfl, Nat.le_refl _⟩
  · obtain ⟨A, c, rfl⟩ := own_slice h
    exact ⟨A, c, rfl, own_le h⟩
theorem grown_none {base : Nat} {w w' : World} (h : w.grownBy w' none) (hb : base ≤ w.heap.size) : Below base w w' := ⟨h.os, h.tape, h.output, h.size, fun q hq => h.block q (Nat.lt_of_lt_of_le hq hb) (fun e => by cases e)⟩
theorem below_grown0' {W w w' : World} (h : Below W.heap.size W w) (hg : w.grownBy w' none) : Below W.heap.size W w' := below_then h (grown_none hg h.size)
theorem AR.shape {α : Type} {d : Kd α} {e base : Nat} {W w : World} {v : Value} {xs : List α} (h : AR d e W w base v xs) : ∃ A n c, v = .slice A n c := by
  obtain ⟨A, c, rfl, -⟩ := h.slice
  exact ⟨_, _, _, rfl⟩
abbrev tProg : Nat := 27
abbrev zProg : Array Value := #[.slice none 0 0, .slice none 0 0, .slice none 0 0]
theorem src_nil {P : Program} {t e' : Nat} (hk : P.underlying t = some (.slice e')) (w : World) (size : Nat) (A : Option Addr) (c : Nat) : Src P size t (.slice A 0 c) 0 [] w := by
  cases A with
  | none => exact Src.ofNil w hk c
  | some a => exact Src.ofSlice w hk a 0 c [] (by simp) (fun j u hu => by simp at hu) (fun u hu => by cases hu)
/-- nothing but a row of things of type e, and what is new, has changed -/
def Stab (e : Nat) (w w' : World) : Prop := ∀ (g : Nat) (cells : Array Value) (t : Nat), t ≠ e → w.heap[g]? = some (Obj.cells cells t (0, 0)) → w'.heap[g]? = some (Obj.cells cells t (0, 0))
theorem Stab.refl (e : Nat) (w : World) : Stab e w w := fun _ _ _ _ h => h
theorem Stab.of_below {e : Nat} {w w' : World} (h : Below w.heap.size w w') : Stab e w w' := fun g cells t _ hg => (h.block g (Array.getElem?_eq_some_iff.1 hg).1).trans hg
theorem AR.stab {α : Type} {d : Kd α} {e e' base : Nat} {W w w' : World} {v : Value} {xs : List α} (h : AR d e W w base v xs) (hs : Stab e' w w') (hne : e ≠ e') : AR d e W w' base v xs := by
  obtain ⟨inner, hr, h⟩ := h
  refine ⟨inner, hr, h.imp id (fun k => own_move k (fun g hg => ?_))⟩
  obtain ⟨cells, hc⟩ := own_typed k g hg
  exact (hs g cells e hne hc).trans hc.symm
theorem Blk.stab {e t g : Nat} {w w' : World} {cs : Array Value} (h : Blk w g cs t) (hs : Stab e w w') (hne : t ≠ e) : Blk w' g cs t := ⟨hs g cs t hne h.out⟩
theorem step_append_ar {P : Program} {ops : Array Oper} {o : Oper} {a : Act} {w : World} {K : Act → World → Prop} {Q : Exit → Act → World → Prop} {E : Prop}
    (hg : o.guard = none) (s x : Operand) (t : TypeId) (hop : o.op = Op.call { callee := Callee.builtin Builtin.append, args := #[s, x], argTypes := #[t, t] })
    {α : Type} (d : Kd α) (e : Nat) (z : Value) (bytes : Nat) (h1 : P.underlying t = some (.slice e)) (hinfo : (P.info? e).map (fun i => (i.zero, i.size, i.bytes)) = some (some z, d.sz, bytes)) (h6 : z.cells.size = d.sz) (h7 : 0 < d.sz)
    {W : World} {v : Value} {xs : List α} (hs : a.eval s = v) (hbel : Below W.heap.size W w) (har : AR d e W w W.heap.size v xs)
    (A : Option Addr) (m c : Nat) (ys : List α) (hx : a.eval x = .slice A m c) (hC : Kd.C d W A m ys) (b1 : xs.length + m ≤ 400000) (b2 : (xs.length + m) * bytes ≤ 140737488355328)
    (hK : ∀ A' c' w', (xs ++ ys).length ≤ c' → AR d e W w' W.heap.size (.slice A' (xs ++ ys).length c') (xs ++ ys) → Below W.heap.size W w' → Stab e w w' → K (a.put o.dst (.slice A' (xs ++ ys).length c')) w') :
    if Region.wanted o (yielded ops a.tmps) = true then Oper.wp P o a w K Q else E := by
  have hw : Region.wanted o (yielded ops a.tmps) = true := by simp [Region.wanted, hg]
  obtain ⟨i, hi, hi2⟩ := Option.map_eq_some_iff.1 hinfo
  simp only [Prod.mk.injEq] at hi2
  obtain ⟨h3, h4, h5⟩ := hi2
  have fin : ∀ v' w', AR d e W w' W.heap.size v' (xs ++ ys) → Below W.heap.size W w' → Stab e w w' → K (a.put o.dst v') w' := by
    intro v' w' q1 q2 q3
    obtain ⟨A', c', rfl, hc⟩ := q1.slice
    exact hK A' c' w' hc q1 q2 q3
  have hlen : ys.length = m := hC.1
  by_cases hm : m = 0
  · subst hm
    obtain rfl : ys = [] := List.length_eq_zero_iff.1 hlen
    obtain ⟨A0, c0, hv, hc0⟩ := har.slice
    have hrun := run_append_nothing (P := P) w t t o.type e i h1 hi A0 xs.length c0 hc0 (.slice A 0 c) (src_nil h1 w i.size A c)
    rw [if_pos hw]
    have hfin := fin v w (by rw [List.append_nil]; exact har) hbel (Stab.refl _ _)
    unfold Oper.wp execOp
    simp only [hop, resolve, invoke, builtin, Sem.run_bind, Sem.run_pure, Result.andThen_ok, List.map_toArray, List.map_cons, List.map_nil, hs, hx, hv, hrun]
    rw [← hv]
    exact hfin
  · obtain ⟨ad, hA, _⟩ := hC.2.2 (by omega)
    subst hA
    obtain ⟨inner2, hr2, hcell⟩ := ReadsRow.inner_ hC
    have hcw : ∀ j u, inner2[j]? = some u → w.cell? (ad.add j) = some u := fun j u hu => pw_cell_below hbel (hcell j u hu)
    have hone := reps_one hr2 h7
    have hl2 : inner2.length = m * d.sz := by rw [hr2.1, hlen]
    obtain ⟨inner, hr, hv | hv⟩ := id har
    · obtain ⟨ao, hv, hxs⟩ := hv
      subst hxs
      have hz : (0 + m) * bytes ≤ 140737488355328 := by simpa using b2
      refine step_append_grows hg s x t hop e i z d.sz bytes h1 hi h3 h4 h5 h6 h7 ao 0 0 [] (by rw [hs, hv]) (fun _ => ⟨rfl, rfl⟩) (by simp) (fun b _ j u hu => by simp at hu) ad m c inner2 hx hl2 hcw hone (by omega) (by unfold maxLen; simp only [List.length_nil] at b1; omega) hz ?_
      intro v' w' ho hgr
      refine fin v' w' ⟨inner2, by rw [List.nil_append]; exact hr2, .inr ?_⟩ (below_grown0' hbel hgr) (Stab.of_below (grown_none hgr (Nat.le_refl _)))
      rw [List.nil_append, hlen]
      rw [Nat.zero_add, List.nil_append] at ho
      exact own_weaken ho hbel.size
    · rw [if_pos hw]
      refine wp_append_own w s x t hop W.heap.size e i z d.sz bytes h1 hi h3 h4 h5 h6 h7 v xs.length inner hs hv ad m c inner2 hx hl2 hcw hone (by unfold maxLen; omega) b2 hbel.size ?_
      intro v' w' ho hgr _
      have hb2 : Below W.heap.size w w' := ⟨hgr.os, hgr.tape, hgr.output, hgr.size, fun q hq => hgr.block q (Nat.lt_of_lt_of_le hq hbel.size) (fun e => by have := own_base hv q e.symm; omega)⟩
      refine fin v' w' ⟨inner ++ inner2, reps_append hr hr2, .inr (by rw [List.length_append, hlen]; exact ho)⟩ (below_then hbel hb2) (fun g cells t ht hcl => (hgr.block g (Array.getElem?_eq_some_iff.1 hcl).1 (fun e => own_ne hv hcl (Ne.symm ht) e)).trans hcl)
/-! ### a drawn region by what holds whatever has been done -/
theorem ready_dep {md : Region.Mode} {ops : Array Oper} {l : Array Bool} {i : Nat} (hi : i ∈ Region.ready md ops l) {o : Oper} (ho : ops[i]? = some o) : l.getD i true = false ∧ ∀ (j : Nat) e, o.after[j]? = some e → (!Region.binds md e || l.getD e.on false) = true := by
  unfold Region.ready at hi
  have h := (List.mem_filter.1 hi).2
  rw [ho] at h
  simp only [Option.map_some, Option.getD_some, Bool.and_eq_true, Bool.not_eq_true'] at h
  refine ⟨h.1, fun j e he => ?_⟩
  exact (Array.all_eq_true_iff_forall_mem.1 h.2) e (Array.mem_of_getElem? he)
theorem wpAny_inv {P : Program} {ops : Array Oper} {Q : Exit → Act → World → Prop} {md : Region.Mode} {Inv : Array Bool → Act → World → Prop}
    (hsz : ∀ l a w, Inv l a w → l.size = ops.size)
    (hstep : ∀ l a w, Inv l a w → ∀ i ∈ Region.ready md ops l, wpOp P ops Q i (fun a' w' => Inv (l.setIfInBounds i true) a' w') a w)
    (hend : ∀ l a w, Inv l a w → Region.ready md ops l = [] → Q .normal a w) : ∀ (fuel : Nat) (l : Array Bool) (a : Act) (w : World), Inv l a w → l.toList.count false ≤ fuel → wpAny P md ops Q fuel l a w
  | 0, l, a, w, h, hf => by
    have hr : Region.ready md ops l = [] := by
      unfold Region.ready
      rw [List.filter_eq_nil_iff]
      intro i hi hc
      rw [Bool.and_eq_true, Bool.not_eq_true'] at hc
      have hlt : i < l.size := by rw [hsz l a w h]; exact List.mem_range.1 hi
      have h0 : l.toList.count false = 0 := by omega
      have h1 := List.count_eq_zero.1 h0
      apply h1
      have h2 : l.getD i true = l[i] := by simp [hlt]
      rw [h2] at hc
      rw [← hc.1]
      simp
    exact ⟨hr, hend l a w h hr⟩
  | fuel + 1, l, a, w, h, hf => by
    refine ⟨fun hr => hend l a w h hr, fun i hi => ?_⟩
    refine wpOp_mono (fun a' w' h' => ?_) (hstep l a w h i hi)
    refine wpAny_inv hsz hstep hend fuel _ a' w' h' ?_
    have hm := List.mem_filter.1 hi
    have hlt : i < l.size := by rw [hsz l a w h]; exact List.mem_range.1 hm.1
    have hb := (Bool.and_eq_true_iff.1 hm.2).1
    rw [Bool.not_eq_true'] at hb
    have h2 : l.getD i true = l[i] := by simp [hlt]
    rw [h2] at hb
    have h3 : (l.setIfInBounds i true).toList = l.toList.set i true := by simp
    rw [h3]
    have h4 := List.count_set (a := true) (b := false) (l := l.toList) (i := i) (by simpa using hlt)
    have h5 : 0 < l.toList.count false := by
      rw [List.count_pos_iff, ← hb]
      simp
    have h6 : l.toList[i]'(by simpa using hlt) = false := by simpa using hb
    rw [h4, h6, if_pos (show (false == false) = true from rfl), if_neg (show ¬ (true == false) = true by decide)]
    omega
/-- a drawn region: Inv holds from the beginning, behind each operation that may come up, and tells the end -/
theorem wp_region_inv {P : Program} {ops : Array Oper} {Q : Exit → Act → World → Prop} {id : Nat} {a : Act} {w : World} (Inv : Array Bool → Act → World → Prop) (n : Nat) (hn : ops.size = n) (hm : P.follows .mixedOrders = true)
    (h0 : Inv (Array.replicate n false) a w.drew) (hsz : ∀ l a w, Inv l a w → l.size = n)
    (hstep : ∀ l a w, Inv l a w → ∀ i ∈ Region.ready .any ops l, wpOp P ops Q i (fun a' w' => Inv (l.setIfInBounds i true) a' w') a w)
    (hend : ∀ l a w, Inv l a w → Region.ready .any ops l = [] → Q .normal a w) : (Code.region id ops true).wp P Q a w :=
  wp_region_any hm (wpAny_inv (fun l a w h => (hsz l a w h).trans hn.symm) hstep hend _ _ _ _ (by rw [hn]; exact h0) (by rw [Array.toList_replicate]; exact Nat.le_trans List.count_le_length (by simp)))
theorem ready_lt {md : Region.Mode} {ops : Array Oper} {l : Array Bool} {i n : Nat} (hn : ops.size = n) (hi : i ∈ Region.ready md ops l) : i ∈ List.range n := by
  rw [← hn]
  exact (List.mem_filter.1 hi).1
end Go.Proofs.YtmgkejobolgkmaaGreatDoor.PL
