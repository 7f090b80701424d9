/- Plain law of layer 22: an image whose code has more slots, or one more instruction. No program in sight. -/
import Derived.Test.YtoiakaagbgfocaaCoImg
namespace Go.Proofs.Ytoiakaagbgfocaa.PC
open Go.RowKit Go.Proofs.YtoiakaagbgfocaaW.PrintWords Go.Proofs.YtoiakaagbgfocaaW.PrintLast Go.Proofs.YtoiakaagbgfocaaW.PrintMore
set_option linter.unusedVariables false
set_option linter.unusedSimpArgs false

/-- what one judge lets by, the other lets by -/
structure JLe (j j' : Jd) : Prop where mk ::
  (g : j'.g.length = j.g.length) (cl : j'.cs.length = j.cs.length) (c1 : ∀ i, (rd_T40 j'.cs i).f1 = (rd_T40 j.cs i).f1) (c2 : ∀ i, (rd_T40 j'.cs i).f2 = (rd_T40 j.cs i).f2)
  (s0 : 1 ≤ j.s) (s1 : j.s ≤ j'.s) (s2 : j'.s ≤ 5000) (r : j'.r = j.r) (x1 : j.xs.length ≤ j'.xs.length) (x2 : j'.xs.length ≤ 2000000)
theorem w64i (x : Int) (h : -9223372036854775808 ≤ x) (h2 : x < 9223372036854775808) : wrap64 x = x := by unfold wrap64; omega
theorem JLe.row {j j' : Jd} (h : JLe j j') (a n : Int) (hr : j.rowB a n = true) : j'.rowB a n = true := by
  have := h.s0
  have := h.s1
  have := h.s2
  simp only [Jd.rowB, Bool.and_eq_true, decide_eq_true_eq] at hr ⊢
  rw [w64i (j.s - 1) (by omega) (by omega)] at hr
  rw [w64i (j'.s - 1) (by omega) (by omega), w64i (j'.s - a) (by omega) (by omega)]
  rw [w64i (j.s - a) (by omega) (by omega)] at hr
  omega
theorem JLe.place {j j' : Jd} (h : JLe j j') (n : Int) (hr : j.placeB n = true) : j'.placeB n = true := by
  have := h.x1
  have := h.x2
  simp only [Jd.placeB, inB, Bool.and_eq_true, decide_eq_true_eq] at hr ⊢
  rw [w64i _ (by omega) (by omega)] at hr ⊢
  omega
theorem JLe.call {j j' : Jd} (h : JLe j j') (op a b c : Int) (hr : j.callB op a b c = true) : j'.callB op a b c = true := by
  have h1 := h.s1
  simp only [Jd.callB, h.cl, h.c1, h.c2, Bool.and_eq_true] at hr ⊢
  refine ⟨hr.1, ?_, h.row _ _ hr.2.2.1, hr.2.2.2.1, h.row _ _ hr.2.2.2.2⟩
  have h2 := hr.2.1
  simp only [inB, Bool.and_eq_true, decide_eq_true_eq] at h2 ⊢
  omega
theorem JLe.inst {j j' : Jd} (h : JLe j j') (op a b c : Int) (hr : j.instB op a b c = true) : j'.instB op a b c = true := by
  have R := h.row
  have P := h.place
  have C := h.call
  have G := h.g
  have E := h.r
  unfold Jd.instB at hr ⊢
  rw [G, E]
  clear h G E
  by_cases e1 : op = 1
  · subst e1
    simp only [List.all_cons, List.all_nil, Bool.and_eq_true, Bool.and_true, Int.reduceEq, if_true, if_false] at hr ⊢
    simp_all
  rw [if_neg e1] at hr ⊢

  by_cases e2 : op = 2
  · subst e2
    simp only [List.all_cons, List.all_nil, Bool.and_eq_true, Bool.and_true, Int.reduceEq, if_true, if_false] at hr ⊢
    simp_all
  rw [if_neg e2] at hr ⊢

  by_cases e3 : op = 3
  · subst e3
    simp only [List.all_cons, List.all_nil, Bool.and_eq_true, Bool.and_true, Int.reduceEq, if_true, if_false] at hr ⊢
    simp_all
  rw [if_neg e3] at hr ⊢

  by_cases e4 : op = 4
  · subst e4
    simp only [List.all_cons, List.all_nil, Bool.and_eq_true, Bool.and_true, Int.reduceEq, if_true, if_false] at hr ⊢
    simp_all
  rw [if_neg e4] at hr ⊢

  by_cases e5 : op = 5
  · subst e5
    simp only [List.all_cons, List.all_nil, Bool.and_eq_true, Bool.and_true, Int.reduceEq, if_true, if_false] at hr ⊢
    simp_all
  rw [if_neg e5] at hr ⊢

  by_cases e6 : op = 6
  · subst e6
    simp only [List.all_cons, List.all_nil, Bool.and_eq_true, Bool.and_true, Int.reduceEq, if_true, if_false] at hr ⊢
    simp_all
  rw [if_neg e6] at hr ⊢

  by_cases e7 : op = 7
  · subst e7
    simp only [List.all_cons, List.all_nil, Bool.and_eq_true, Bool.and_true, Int.reduceEq, if_true, if_false] at hr ⊢
    simp_all
  rw [if_neg e7] at hr ⊢

  by_cases e8 : op = 8
  · subst e8
    simp only [List.all_cons, List.all_nil, Bool.and_eq_true, Bool.and_true, Int.reduceEq, if_true, if_false] at hr ⊢
    simp_all
  rw [if_neg e8] at hr ⊢

  by_cases e9 : op = 9
  · subst e9
    simp only [List.all_cons, List.all_nil, Bool.and_eq_true, Bool.and_true, Int.reduceEq, if_true, if_false] at hr ⊢
    simp_all
  rw [if_neg e9] at hr ⊢

  by_cases e10 : op = 10
  · subst e10
    simp only [List.all_cons, List.all_nil, Bool.and_eq_true, Bool.and_true, Int.reduceEq, if_true, if_false] at hr ⊢
    simp_all
  rw [if_neg e10] at hr ⊢

  by_cases e11 : op = 11
  · subst e11
    simp only [List.all_cons, List.all_nil, Bool.and_eq_true, Bool.and_true, Int.reduceEq, if_true, if_false] at hr ⊢
    simp_all
  rw [if_neg e11] at hr ⊢

  by_cases e12 : op = 12
  · subst e12
    simp only [List.all_cons, List.all_nil, Bool.and_eq_true, Bool.and_true, Int.reduceEq, if_true, if_false] at hr ⊢
    simp_all
  rw [if_neg e12] at hr ⊢

  by_cases e13 : op = 13
  · subst e13
    simp only [List.all_cons, List.all_nil, Bool.and_eq_true, Bool.and_true, Int.reduceEq, if_true, if_false] at hr ⊢
    simp_all
  rw [if_neg e13] at hr ⊢

  by_cases e14 : op = 14
  · subst e14
    simp only [List.all_cons, List.all_nil, Bool.and_eq_true, Bool.and_true, Int.reduceEq, if_true, if_false] at hr ⊢
    simp_all
  rw [if_neg e14] at hr ⊢

  by_cases e15 : op = 15
  · subst e15
    simp only [List.all_cons, List.all_nil, Bool.and_eq_true, Bool.and_true, Int.reduceEq, if_true, if_false] at hr ⊢
    simp_all
  rw [if_neg e15] at hr ⊢

  by_cases e16 : op = 16
  · subst e16
    simp only [List.all_cons, List.all_nil, Bool.and_eq_true, Bool.and_true, Int.reduceEq, if_true, if_false] at hr ⊢
    simp_all
  rw [if_neg e16] at hr ⊢

  by_cases e17 : op = 17
  · subst e17
    simp only [List.all_cons, List.all_nil, Bool.and_eq_true, Bool.and_true, Int.reduceEq, if_true, if_false] at hr ⊢
    simp_all
  rw [if_neg e17] at hr ⊢

  by_cases e18 : op = 18
  · subst e18
    simp only [List.all_cons, List.all_nil, Bool.and_eq_true, Bool.and_true, Int.reduceEq, if_true, if_false] at hr ⊢
    simp_all
  rw [if_neg e18] at hr ⊢

  by_cases e19 : op = 19
  · subst e19
    simp only [List.all_cons, List.all_nil, Bool.and_eq_true, Bool.and_true, Int.reduceEq, if_true, if_false] at hr ⊢
    simp_all
  rw [if_neg e19] at hr ⊢

  by_cases e20 : op = 20
  · subst e20
    simp only [List.all_cons, List.all_nil, Bool.and_eq_true, Bool.and_true, Int.reduceEq, if_true, if_false] at hr ⊢
    simp_all
  rw [if_neg e20] at hr ⊢

  by_cases e21 : op = 21
  · subst e21
    simp only [List.all_cons, List.all_nil, Bool.and_eq_true, Bool.and_true, Int.reduceEq, if_true, if_false] at hr ⊢
    simp_all
  rw [if_neg e21] at hr ⊢

  by_cases e22 : op = 22
  · subst e22
    simp only [List.all_cons, List.all_nil, Bool.and_eq_true, Bool.and_true, Int.reduceEq, if_true, if_false] at hr ⊢
    simp_all
  rw [if_neg e22] at hr ⊢

  by_cases e23 : op = 23
  · subst e23
    simp only [List.all_cons, List.all_nil, Bool.and_eq_true, Bool.and_true, Int.reduceEq, if_true, if_false] at hr ⊢
    simp_all
  rw [if_neg e23] at hr ⊢
  exact absurd hr (by simp)
theorem JLe.ins {j j' : Jd} (h : JLe j j') (hr : j.xs.all j.insB = true) : j.xs.all j'.insB = true := by
  rw [List.all_eq_true] at hr ⊢
  exact fun x hx => h.inst _ _ _ _ (hr x hx)
theorem JLe.pad {j j' : Jd} (h : JLe j j') (hr : j.ps.all j.padB = true) : j.ps.all j'.padB = true := by
  have := h.x1
  rw [List.all_eq_true] at hr ⊢
  intro x hx
  have h1 := hr x hx
  simp only [Jd.padB, Bool.and_eq_true, decide_eq_true_eq] at h1 ⊢
  exact ⟨h1.1, by omega, h.place _ h1.2.2⟩
/-- codes that differ in one code's slots or instructions alone -/
structure CsLike (cs cs' : List S40) : Prop where mk :: (cl : cs'.length = cs.length) (c1 : ∀ i, (rd_T40 cs' i).f1 = (rd_T40 cs i).f1) (c2 : ∀ i, (rd_T40 cs' i).f2 = (rd_T40 cs i).f2)
theorem csLike_set (cs : List S40) (n : Nat) (q' : S40) (hn : n < cs.length) (h1 : q'.f1 = (rd_T40 cs (n : Int)).f1) (h2 : q'.f2 = (rd_T40 cs (n : Int)).f2) : CsLike cs (cs.set n q') := by
  have key : ∀ i : Int, rd_T40 (cs.set n q') i = rd_T40 cs i ∨ (rd_T40 (cs.set n q') i = q' ∧ rd_T40 cs i = rd_T40 cs (n : Int)) := by
    intro i
    by_cases e : i.toNat = n
    · right
      simp [rd_T40, List.getD, e, hn]
    · left
      have e' : ¬ n = i.toNat := fun h => e h.symm
      simp [rd_T40, List.getD, List.getElem?_set, e']
  refine ⟨by simp, fun i => ?_, fun i => ?_⟩
  · rcases key i with h | ⟨h, h'⟩
    · rw [h]
    · rw [h, h', h1]
  · rcases key i with h | ⟨h, h'⟩
    · rw [h]
    · rw [h, h', h2]
theorem right_parts {gs : List S48} {cs : List S40} {m : Int} {x : S40} (h : codeB gs cs m x = true) :
    inB x.f0 1 4095 = true ∧ inB x.f1 0 x.f0 = true ∧ inB x.f2 1 64 = true ∧ inB (x.f3.length : Int) 1 1048576 = true ∧ x.f4.length ≤ 1048576 ∧
      x.f3.all (jdOf gs cs m x none none none none 0 0 0 0).insB = true ∧ x.f4.all (jdOf gs cs m x none none none none 0 0 0 0).padB = true ∧ lastB (rd_T42 x.f3 ((x.f3.length : Int) - 1)).f0 = true := by
  unfold codeB Jd.rightB at h
  simp only [Bool.and_eq_true, decide_eq_true_eq] at h
  obtain ⟨h1, h2, h3, h4, h5, h6, h7, h8⟩ := h
  exact ⟨h1, h2, h3, h4, h5, h6, h7, h8⟩
theorem right_of {gs : List S48} {cs : List S40} {m : Int} {x : S40} (h1 : inB x.f0 1 4095 = true) (h2 : inB x.f1 0 x.f0 = true) (h3 : inB x.f2 1 64 = true) (h4 : inB (x.f3.length : Int) 1 1048576 = true) (h5 : x.f4.length ≤ 1048576)
    (h6 : x.f3.all (jdOf gs cs m x none none none none 0 0 0 0).insB = true) (h7 : x.f4.all (jdOf gs cs m x none none none none 0 0 0 0).padB = true) (h8 : lastB (rd_T42 x.f3 ((x.f3.length : Int) - 1)).f0 = true) : codeB gs cs m x = true := by
  unfold codeB Jd.rightB
  simp only [Bool.and_eq_true, decide_eq_true_eq]
  exact ⟨h1, h2, h3, h4, h5, h6, h7, h8⟩
theorem inB_of {n lo hi : Int} (h : inB n lo hi = true) : lo ≤ n ∧ n ≤ hi := by
  simpa [inB] using h
theorem inB_mk {n lo hi : Int} (h : lo ≤ n) (h2 : n ≤ hi) : inB n lo hi = true := by
  simp [inB, h, h2]
/-- a code that stays, beside one that is changed -/
theorem code_stays {gs : List S48} {cs cs' : List S40} {m : Int} {x : S40} (hl : CsLike cs cs') (h : codeB gs cs m x = true) : codeB gs cs' m x = true := by
  obtain ⟨h1, h2, h3, h4, h5, h6, h7, h8⟩ := right_parts h
  have i1 := inB_of h1
  have i4 := inB_of h4
  have hj : JLe (jdOf gs cs m x none none none none 0 0 0 0) (jdOf gs cs' m x none none none none 0 0 0 0) :=
    ⟨rfl, hl.cl, hl.c1, hl.c2, i1.1, Int.le_refl _, by show x.f0 ≤ 5000; omega, rfl, Nat.le_refl _, by show x.f3.length ≤ 2000000; omega⟩
  exact right_of h1 h2 h3 h4 h5 (hj.ins h6) (hj.pad h7) h8
theorem code_slots {gs : List S48} {cs cs' : List S40} {m : Int} {x : S40} (hl : CsLike cs cs') (h : codeB gs cs m x = true) (d : Int) (d0 : 0 ≤ d) (d1 : d ≤ 255) : codeB gs cs' m { x with f0 := x.f0 + d } = decide (x.f0 + d ≤ 4095) := by
  obtain ⟨h1, h2, h3, h4, h5, h6, h7, h8⟩ := right_parts h
  have i1 := inB_of h1
  have i2 := inB_of h2
  have i4 := inB_of h4
  by_cases hd : x.f0 + d ≤ 4095
  · rw [decide_eq_true hd]
    have hj : JLe (jdOf gs cs m x none none none none 0 0 0 0) (jdOf gs cs' m { x with f0 := x.f0 + d } none none none none 0 0 0 0) :=
      ⟨rfl, hl.cl, hl.c1, hl.c2, i1.1, by show x.f0 ≤ x.f0 + d; omega, by show x.f0 + d ≤ 5000; omega, rfl, Nat.le_refl _, by show x.f3.length ≤ 2000000; omega⟩
    exact right_of (x := { x with f0 := x.f0 + d }) (inB_mk (by show (1 : Int) ≤ x.f0 + d; omega) hd) (inB_mk i2.1 (by show x.f1 ≤ x.f0 + d; omega)) h3 h4 h5 (hj.ins h6) (hj.pad h7) h8
  · rw [decide_eq_false hd]
    unfold codeB Jd.rightB
    have : inB (x.f0 + d) 1 4095 = false := by simp [inB]; omega
    show (inB (x.f0 + d) 1 4095 && _) = false
    rw [this]
    rfl
theorem code_resume {gs : List S48} {cs cs' : List S40} {m : Int} {x : S40} (hl : CsLike cs cs') (h : codeB gs cs m x = true) : codeB gs cs' m { x with f3 := x.f3 ++ [⟨23, 0, 0, 0⟩] } = decide (x.f3.length < 1048576) := by
  obtain ⟨h1, h2, h3, h4, h5, h6, h7, h8⟩ := right_parts h
  have i1 := inB_of h1
  have i4 := inB_of h4
  have hlen : (x.f3 ++ [(⟨23, 0, 0, 0⟩ : S42)]).length = x.f3.length + 1 := by simp
  by_cases hd : x.f3.length < 1048576
  · rw [decide_eq_true hd]
    have hj : JLe (jdOf gs cs m x none none none none 0 0 0 0) (jdOf gs cs' m { x with f3 := x.f3 ++ [⟨23, 0, 0, 0⟩] } none none none none 0 0 0 0) :=
      ⟨rfl, hl.cl, hl.c1, hl.c2, i1.1, Int.le_refl _, by show x.f0 ≤ 5000; omega, rfl, by show x.f3.length ≤ (x.f3 ++ [(⟨23, 0, 0, 0⟩ : S42)]).length; omega, by show (x.f3 ++ [(⟨23, 0, 0, 0⟩ : S42)]).length ≤ 2000000; omega⟩
    refine right_of (x := { x with f3 := x.f3 ++ [⟨23, 0, 0, 0⟩] }) h1 h2 h3 (inB_mk ?_ ?_) h5 ?_ (hj.pad h7) ?_
    · show (1 : Int) ≤ ((x.f3 ++ [(⟨23, 0, 0, 0⟩ : S42)]).length : Int)
      omega
    · show ((x.f3 ++ [(⟨23, 0, 0, 0⟩ : S42)]).length : Int) ≤ 1048576
      omega
    · show (x.f3 ++ [(⟨23, 0, 0, 0⟩ : S42)]).all _ = true
      rw [List.all_append, Bool.and_eq_true]
      exact ⟨hj.ins h6, by simp [Jd.insB, Jd.instB]⟩
    · show lastB (rd_T42 (x.f3 ++ [(⟨23, 0, 0, 0⟩ : S42)]) (((x.f3 ++ [(⟨23, 0, 0, 0⟩ : S42)]).length : Int) - 1)).f0 = true
      rw [hlen, show (((x.f3.length + 1 : Nat) : Int) - 1) = (x.f3.length : Int) by omega]
      simp [rd_T42, List.getD, lastB]
  · rw [decide_eq_false hd]
    unfold codeB Jd.rightB
    have : inB ((x.f3 ++ [(⟨23, 0, 0, 0⟩ : S42)]).length : Int) 1 1048576 = false := by rw [hlen]; simp [inB]; omega
    simp only [this, Bool.and_false, Bool.false_and]
theorem code_check {gs : List S48} {cs : List S40} {m : Int} {x : S40} : codeB gs cs m { x with f3 := x.f3 ++ [⟨19, 0, 0, 0⟩] } = false := by
  have : lastB (rd_T42 (x.f3 ++ [(⟨19, 0, 0, 0⟩ : S42)]) (((x.f3 ++ [(⟨19, 0, 0, 0⟩ : S42)]).length : Int) - 1)).f0 = false := by
    rw [show (x.f3 ++ [(⟨19, 0, 0, 0⟩ : S42)]).length = x.f3.length + 1 by simp, show (((x.f3.length + 1 : Nat) : Int) - 1) = (x.f3.length : Int) by omega]
    simp [rd_T42, List.getD, lastB]
  unfold codeB Jd.rightB
  simp only [this, Bool.and_false]
/-- one code of a right image is changed: the image is right iff that code is -/
theorem img_set {gs : List S48} {cs : List S40} {m : Int} (h : imgB gs cs m = true) (n : Nat) (hn : n < cs.length) (q' : S40) (h1 : q'.f1 = (rd_T40 cs (n : Int)).f1) (h2 : q'.f2 = (rd_T40 cs (n : Int)).f2) : imgB gs (cs.set n q') m = codeB gs (cs.set n q') m q' := by
  have hl := csLike_set cs n q' hn h1 h2
  unfold imgB at h ⊢
  simp only [Bool.and_eq_true, decide_eq_true_eq, List.all_eq_true] at h
  obtain ⟨e1, e2, e3, e4, e5, e6⟩ := h
  have e6' : mainB (cs.set n q') m = true := by
    unfold mainB at e6 ⊢
    rw [hl.c1, hl.c2]
    exact e6
  rw [hl.cl, decide_eq_true e1, e2, e3, e4, e6']
  simp only [Bool.true_and, Bool.and_true]
  cases hq : codeB gs (cs.set n q') m q' with
  | true =>
    rw [List.all_eq_true]
    intro x hx
    rcases List.mem_or_eq_of_mem_set hx with hx | rfl
    · exact code_stays hl (e5 x hx)
    · exact hq
  | false =>
    rw [List.all_eq_false]
    exact ⟨q', List.mem_set hn q', by simp [hq]⟩
theorem img_code {gs : List S48} {cs : List S40} {m : Int} (h : imgB gs cs m = true) (n : Nat) (hn : n < cs.length) : codeB gs cs m (rd_T40 cs (n : Int)) = true := by
  unfold imgB at h
  simp only [Bool.and_eq_true, decide_eq_true_eq, List.all_eq_true] at h
  have : rd_T40 cs (n : Int) = cs[n] := by simp [rd_T40, List.getD, hn]
  rw [this]
  exact h.2.2.2.2.1 _ (List.getElem_mem hn)
/-- a code with more slots -/
def slotsQ (q : S40) (d : Int) : S40 := ⟨q.f0 + d, q.f1, q.f2, q.f3, q.f4⟩
/-- a code with one more instruction -/
def instsQ (q : S40) (x : S42) : S40 := ⟨q.f0, q.f1, q.f2, q.f3 ++ [x], q.f4⟩
theorem img_slots {gs : List S48} {cs : List S40} {m : Int} (h : imgB gs cs m = true) (n : Nat) (hn : n < cs.length) (d : Int) (d0 : 0 ≤ d) (d1 : d ≤ 255) :
    imgB gs (cs.set n (slotsQ (rd_T40 cs (n : Int)) d)) m = decide ((rd_T40 cs (n : Int)).f0 + d ≤ 4095) :=
  (img_set h n hn (slotsQ (rd_T40 cs (n : Int)) d) rfl rfl).trans (code_slots (csLike_set cs n (slotsQ (rd_T40 cs (n : Int)) d) hn rfl rfl) (img_code h n hn) d d0 d1)
theorem img_resume {gs : List S48} {cs : List S40} {m : Int} (h : imgB gs cs m = true) (n : Nat) (hn : n < cs.length) :
    imgB gs (cs.set n (instsQ (rd_T40 cs (n : Int)) ⟨23, 0, 0, 0⟩)) m = decide ((rd_T40 cs (n : Int)).f3.length < 1048576) :=
  (img_set h n hn (instsQ (rd_T40 cs (n : Int)) ⟨23, 0, 0, 0⟩) rfl rfl).trans (code_resume (csLike_set cs n (instsQ (rd_T40 cs (n : Int)) ⟨23, 0, 0, 0⟩) hn rfl rfl) (img_code h n hn))
theorem img_check {gs : List S48} {cs : List S40} {m : Int} (h : imgB gs cs m = true) (n : Nat) (hn : n < cs.length) :
    imgB gs (cs.set n (instsQ (rd_T40 cs (n : Int)) ⟨19, 0, 0, 0⟩)) m = false :=
  (img_set h n hn (instsQ (rd_T40 cs (n : Int)) ⟨19, 0, 0, 0⟩) rfl rfl).trans code_check
end Go.Proofs.Ytoiakaagbgfocaa.PC
