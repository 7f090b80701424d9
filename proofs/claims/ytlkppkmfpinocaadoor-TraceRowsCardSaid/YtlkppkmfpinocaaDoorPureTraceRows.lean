/- TraceRows: the document's Live, Sound, Front and Alike, told plainly; the plain law. No program in sight. -/
import Derived.Test.YtlkppkmfpinocaaDoorPTx10
import Derived.Test.YtlkppkmfpinocaaDoorPTx3
import Derived.Test.YtlkppkmfpinocaaDoorPTx4
import Derived.Test.YtlkppkmfpinocaaDoorPTx5
import Derived.Test.YtlkppkmfpinocaaDoorPTx6
import Derived.Test.YtlkppkmfpinocaaDoorPTx4
import Derived.Test.YtlkppkmfpinocaaDoorTrRenPure
import Derived.Test.YtlkppkmfpinocaaDoorTrLive
import Derived.Test.YtlkppkmfpinocaaDoorTrSound
namespace Go.Proofs.YtlkppkmfpinocaaDoor.PT
open Go.RowKit Go.Proofs.YtlkppkmfpinocaaDoorW.PrintWords Go.Proofs.YtlkppkmfpinocaaDoorW.PrintLast Go.Proofs.YtlkppkmfpinocaaDoorW.PrintMore
set_option linter.unusedVariables false
set_option linter.unusedSimpArgs false

theorem rd_at (l : List Int) (i : Nat) (h : i < l.length) : rd l (i : Int) = l[i] := by simp [rd, List.getD, h]
theorem w64n (n : Nat) (h : n < 1000000) : wrap64 ((n : Int) + 1) = ((n + 1 : Nat) : Int) := by unfold wrap64; omega
/-! ### numbers and has -/
theorem numbers_l0 (a : List Int) (hl : a.length ≤ 100000) : ∀ (m i : Nat), i + m = a.length → Ev (fun k => droguelaw20_numbers.l0 k a a (i : Int)) true
  | 0, i, h => by
    refine Ev.step ?_
    simp only [droguelaw20_numbers.l0]
    exact Ev.neg (by omega) (Ev.pure _)
  | m + 1, i, h => by
    refine Ev.step ?_
    simp only [droguelaw20_numbers.l0]
    refine Ev.pos (by omega) ?_
    refine Ev.pos (by omega) ?_
    refine Ev.pos (by omega) ?_
    refine Ev.pos trivial ?_
    rw [w64n i (by omega)]
    exact numbers_l0 a hl m (i + 1) (by omega)
theorem numbers_ev (a : List Int) (hl : a.length ≤ 100000) : Ev (fun k => droguelaw20_numbers.f k a a) true := by
  unfold droguelaw20_numbers.f
  exact Ev.pos rfl (numbers_l0 a hl a.length 0 (by omega))
theorem has_l0 (a : List Int) (x : Int) (hl : a.length ≤ 100000) : ∀ (m i : Nat), i + m = a.length → Ev (fun k => drogueref20_has.l0 k a x (i : Int)) (decide (x ∈ a.drop i))
  | 0, i, h => by
    refine Ev.step ?_
    simp only [drogueref20_has.l0]
    rw [List.drop_eq_nil_of_le (by omega)]
    exact Ev.neg (by omega) (Ev.const (by simp))
  | m + 1, i, h => by
    have hlt : i < a.length := by omega
    refine Ev.step ?_
    simp only [drogueref20_has.l0]
    refine Ev.pos (by omega) ?_
    refine Ev.pos (by omega) ?_
    rw [w64n i (by omega), rd_at a i hlt, List.drop_eq_getElem_cons hlt]
    by_cases hx : a[i] = x
    · refine Ev.pos hx (Ev.const ?_)
      simp [hx]
    · refine Ev.neg hx ?_
      have := has_l0 a x hl m (i + 1) (by omega)
      have e : decide (x ∈ a[i] :: a.drop (i + 1)) = decide (x ∈ a.drop (i + 1)) := by
        rw [decide_eq_decide, List.mem_cons]
        constructor
        · rintro (h | h)
          · exact absurd h.symm hx
          · exact h
        · exact Or.inr
      rw [e]
      exact this
theorem has_ev (a : List Int) (x : Int) (hl : a.length ≤ 100000) : Ev (fun k => drogueref20_has.f k a x) (decide (x ∈ a)) := has_l0 a x hl a.length 0 (by omega)
/-! ### Front -/
theorem frontB_cons (x y : S26) (a b : List S26) : frontB (x :: a) (y :: b) = ((x.f0 == y.f0) && ((x.f1 == y.f1) && frontB a b)) := by
  unfold frontB
  simp only [List.length_cons, List.take_succ_cons, eqL_cons]
  rw [show decide (a.length + 1 ≤ b.length + 1) = decide (a.length ≤ b.length) by simp]
  cases decide (a.length ≤ b.length) <;> cases (x.f0 == y.f0) <;> cases (x.f1 == y.f1) <;> rfl
theorem front_l0 (a b : List S26) (hl : a.length ≤ 100000) : ∀ (m i : Nat), i + m = a.length → Ev (fun k => drogueref20_Front.l0 k a b (i : Int)) (frontB (a.drop i) (b.drop i))
  | 0, i, h => by
    refine Ev.step ?_
    simp only [drogueref20_Front.l0]
    rw [show a.drop i = [] from List.drop_eq_nil_of_le (by omega)]
    exact Ev.neg (by omega) (Ev.const (by simp [frontB, eqL]))
  | m + 1, i, h => by
    have hlt : i < a.length := by omega
    refine Ev.step ?_
    simp only [drogueref20_Front.l0]
    refine Ev.pos (by omega) ?_
    by_cases hb : b.length ≤ i
    · refine Ev.pos (by omega) (Ev.const ?_)
      have : ¬ (a.drop i).length ≤ (b.drop i).length := by rw [List.length_drop, List.length_drop]; omega
      simp only [frontB, this, decide_false, Bool.false_and]
    · refine Ev.neg (by omega) ?_
      refine Ev.pos (by omega) ?_
      refine Ev.pos (by omega) ?_
      rw [w64n i (by omega), drop_rd' a i hlt, drop_rd' b i (by omega), frontB_cons]
      have ih := front_l0 a b hl m (i + 1) (by omega)
      generalize rd_T26 a (i : Int) = x
      generalize rd_T26 b (i : Int) = y
      by_cases h0 : x.f0 = y.f0
      · by_cases h1 : x.f1 = y.f1
        · refine Ev.neg (by simp [h0, h1]) ?_
          simpa [h0, h1] using ih
        · refine Ev.pos (by simp [h1]) (Ev.const ?_)
          simp [h1]
      · refine Ev.pos (by simp [h0]) (Ev.const ?_)
        simp [h0]
theorem reffront_ev (a b : List S26) (hl : a.length ≤ 100000) : Ev (fun k => drogueref20_Front.f k a b) (frontB a b) := front_l0 a b hl a.length 0 (by omega)
/-! ### Live -/
theorem live_l1 (l : List S26) (hl : l.length ≤ 100000) (i : Nat) (hi : i < l.length) (zs : List Int) (hz : zs.length ≤ 100000) (r : List Int)
    (hnext : ∀ out : List Int, out = (if (rd_T26 l (i : Int)).f0 = 1 then delL (rd_T26 l (i : Int)).f1 zs ++ [(rd_T26 l (i : Int)).f1] else delL (rd_T26 l (i : Int)).f1 zs) → Ev (fun k => drogueref20_Live.l0 k l out ((i + 1 : Nat) : Int)) r) :
    ∀ (m j : Nat) (ys : List Int), j + m = zs.length → ys = delL (rd_T26 l (i : Int)).f1 (zs.take j) → Ev (fun k => drogueref20_Live.l1 k l zs (i : Int) ys (j : Int)) r
  | 0, j, ys, h, hy => by
    have hyl : ys.length ≤ 100000 := by
      have : ys.length ≤ (zs.take j).length := by rw [hy]; exact List.length_filter_le _ _
      rw [List.length_take] at this
      omega
    rw [List.take_of_length_le (by omega)] at hy
    refine Ev.step ?_
    simp only [drogueref20_Live.l1]
    refine Ev.neg (by omega) ?_
    refine Ev.pos (by omega) ?_
    refine Ev.pos (by omega) ?_
    rw [w64n i (by omega)]
    by_cases h1 : (rd_T26 l (i : Int)).f0 = 1
    · refine Ev.pos h1 ?_
      refine Ev.pos (by omega) ?_
      exact hnext _ (by rw [if_pos h1, hy])
    · refine Ev.neg h1 ?_
      exact hnext _ (by rw [if_neg h1, hy])
  | m + 1, j, ys, h, hy => by
    have hlt : j < zs.length := by omega
    have hyl : ys.length ≤ 100000 := by
      have : ys.length ≤ (zs.take j).length := by rw [hy]; exact List.length_filter_le _ _
      rw [List.length_take] at this
      omega
    have hts : zs.take (j + 1) = zs.take j ++ [zs[j]] := by rw [List.take_succ_eq_append_getElem hlt]
    refine Ev.step ?_
    simp only [drogueref20_Live.l1]
    refine Ev.pos (by omega) ?_
    refine Ev.pos (by omega) ?_
    refine Ev.pos (by omega) ?_
    refine Ev.pos (by omega) ?_
    rw [w64n j (by omega), rd_at zs j hlt]
    by_cases hx : zs[j] = (rd_T26 l (i : Int)).f1
    · refine Ev.pos hx ?_
      refine live_l1 l hl i hi zs hz r hnext m (j + 1) ys (by omega) ?_
      rw [hts, hy]
      simp [delL, hx]
    · refine Ev.neg hx ?_
      refine Ev.pos (by omega) ?_
      refine live_l1 l hl i hi zs hz r hnext m (j + 1) _ (by omega) ?_
      rw [hts, hy]
      unfold delL
      rw [List.filter_append, List.filter_cons_of_pos (by simp [hx]), List.filter_nil]
theorem live_l0 (l : List S26) (hl : l.length ≤ 100000) : ∀ (m i : Nat) (zs : List Int), i + m = l.length → zs.length ≤ i → Ev (fun k => drogueref20_Live.l0 k l zs (i : Int)) ((l.drop i).foldl liveStep zs)
  | 0, i, zs, h, hz => by
    refine Ev.step ?_
    simp only [drogueref20_Live.l0]
    rw [List.drop_eq_nil_of_le (by omega)]
    exact Ev.neg (by omega) (Ev.pure _)
  | m + 1, i, zs, h, hz => by
    have hlt : i < l.length := by omega
    rw [drop_rd' l i hlt, List.foldl_cons]
    have hsl := liveStep_len zs (rd_T26 l (i : Int))
    have ih := fun out (ho : out = liveStep zs (rd_T26 l (i : Int))) => live_l0 l hl m (i + 1) out (by omega) (by rw [ho]; omega)
    have hnum : ((rd_T26 l (i : Int)).f0 = 1 ∨ (rd_T26 l (i : Int)).f0 = 2) → Ev (fun k => drogueref20_Live.j1 k l zs (i : Int) false) ((l.drop (i + 1)).foldl liveStep (liveStep zs (rd_T26 l (i : Int)))) := by
      intro hn
      refine Ev.step ?_
      simp only [drogueref20_Live.j1]
      refine Ev.neg (by decide) ?_
      refine live_l1 l hl i hlt zs (by omega) _ (fun out ho => ?_) zs.length 0 [] (by omega) rfl
      have ho2 : out = liveStep zs (rd_T26 l (i : Int)) := by
        rw [ho]
        unfold liveStep
        by_cases h1 : (rd_T26 l (i : Int)).f0 = 1
        · rw [if_pos h1, if_pos h1]
        · rw [if_neg h1, if_neg h1, if_pos (hn.resolve_left h1)]
      rw [← ho2]
      exact ih out ho2
    refine Ev.step ?_
    simp only [drogueref20_Live.l0]
    refine Ev.pos (by omega) ?_
    refine Ev.pos (by omega) ?_
    by_cases h1 : (rd_T26 l (i : Int)).f0 = 1
    · exact Ev.pos h1 (hnum (Or.inl h1))
    · refine Ev.neg h1 ?_
      by_cases h2 : (rd_T26 l (i : Int)).f0 = 2
      · rw [show ((rd_T26 l (i : Int)).f0 != 2) = false by simp [h2]]
        exact hnum (Or.inr h2)
      · rw [show ((rd_T26 l (i : Int)).f0 != 2) = true by simp [h2]]
        refine Ev.step ?_
        simp only [drogueref20_Live.j1]
        refine Ev.pos trivial ?_
        rw [w64n i (by omega)]
        have e : liveStep zs (rd_T26 l (i : Int)) = zs := by unfold liveStep; rw [if_neg h1, if_neg h2]
        rw [e]
        exact ih zs e.symm
theorem reflive_ev (l : List S26) (hl : l.length ≤ 100000) : Ev (fun k => drogueref20_Live.f k l) (liveF l) := live_l0 l hl l.length 0 [] (by omega) (Nat.le_refl _)
/-! ### Alike -/
def pairsTo (a b : List S26) : Nat → List (Int × Int)
  | 0 => []
  | i + 1 => if isNum (rd_T26 a (i : Int)) then ((rd_T26 a (i : Int)).f1, (rd_T26 b (i : Int)).f1) :: pairsTo a b i else pairsTo a b i
theorem pairs_all (a b : List S26) (q : Int × Int → Bool) : ∀ (i : Nat), (pairsTo a b i).all q = true ↔ ∀ k : Nat, k < i → isNum (rd_T26 a (k : Int)) = true → q ((rd_T26 a (k : Int)).f1, (rd_T26 b (k : Int)).f1) = true
  | 0 => by simp [pairsTo]
  | i + 1 => by
    unfold pairsTo
    constructor
    · intro h k hk hn
      rcases Nat.lt_or_ge k i with h1 | h1
      · refine (pairs_all a b q i).1 ?_ k h1 hn
        split at h
        · simp only [List.all_cons, Bool.and_eq_true] at h
          exact h.2
        · exact h
      · obtain rfl : k = i := by omega
        rw [if_pos hn] at h
        simp only [List.all_cons, Bool.and_eq_true] at h
        exact h.1
    · intro h
      have h1 := (pairs_all a b q i).2 fun k hk hn => h k (by omega) hn
      split
      · rename_i hn
        simp only [List.all_cons, Bool.and_eq_true]
        exact ⟨h i (by omega) hn, h1⟩
      · exact h1
def cnd (a b : List S26) (i k : Nat) : Bool := ((rd_T26 a (k : Int)).f1 == (rd_T26 a (i : Int)).f1) == ((rd_T26 b (k : Int)).f1 == (rd_T26 b (i : Int)).f1)
def okR (a b : List S26) (i : Nat) : Nat → Nat → Bool
  | 0, _ => true
  | m + 1, j => (!isNum (rd_T26 a (j : Int)) || cnd a b i j) && okR a b i m (j + 1)
theorem okR_iff (a b : List S26) (i : Nat) : ∀ (m j : Nat), okR a b i m j = true ↔ ∀ k : Nat, j ≤ k → k < j + m → isNum (rd_T26 a (k : Int)) = true → cnd a b i k = true
  | 0, j => by
    simp only [okR, true_iff]
    intro k h1 h2
    omega
  | m + 1, j => by
    simp only [okR, Bool.and_eq_true, okR_iff a b i m (j + 1), Bool.or_eq_true, Bool.not_eq_true']
    constructor
    · rintro ⟨h1, h2⟩ k h3 h4 hn
      rcases Nat.lt_or_ge j k with h5 | h5
      · exact h2 k (by omega) (by omega) hn
      · obtain rfl : k = j := by omega
        rcases h1 with h1 | h1
        · rw [hn] at h1
          cases h1
        · exact h1
    · intro h
      refine ⟨?_, fun k h3 h4 hn => h k (by omega) (by omega) hn⟩
      cases hn : isNum (rd_T26 a (j : Int)) with
      | false => exact Or.inl rfl
      | true => exact Or.inr (h j (Nat.le_refl _) (by omega) hn)
theorem okR_pairs (a b : List S26) (i : Nat) : okR a b i i 0 = ((pairsTo a b i).all fun p => (p.1 == (rd_T26 a (i : Int)).f1) == (p.2 == (rd_T26 b (i : Int)).f1)) := by
  rw [Bool.eq_iff_iff, okR_iff, pairs_all]
  constructor
  · intro h k hk hn
    exact h k (Nat.zero_le _) (by omega) hn
  · intro h k _ hk hn
    exact h k (by omega) hn
theorem alike_r1 (a b : List S26) (hab : a.length = b.length) (hl : a.length ≤ 100000) (i : Nat) (hi : i < a.length) (r : Bool) (hnext : Ev (fun k => drogueref20_Alike.l0 k a b ((i + 1 : Nat) : Int)) r) :
    ∀ (m j : Nat), j + m = i → Ev (fun k => drogueref20_Alike.l1 k a b (i : Int) (j : Int)) (okR a b i m j && r)
  | 0, j, h => by
    refine Ev.step ?_
    simp only [drogueref20_Alike.l1]
    refine Ev.neg (by omega) ?_
    rw [w64n i (by omega)]
    simpa [okR] using hnext
  | m + 1, j, h => by
    have ih := alike_r1 a b hab hl i hi r hnext m (j + 1) (by omega)
    have hj3 : ∀ x : Bool, x = (isNum (rd_T26 a (j : Int)) && !cnd a b i j) → Ev (fun k => drogueref20_Alike.j3 k a b (i : Int) (j : Int) x) (okR a b i (m + 1) j) → True := fun _ _ _ => trivial
    have hj : ∀ x : Bool, (!isNum (rd_T26 a (j : Int)) || cnd a b i j) = !x → Ev (fun k => drogueref20_Alike.j3 k a b (i : Int) (j : Int) x) (okR a b i (m + 1) j && r) := by
      intro x hx
      refine Ev.step ?_
      simp only [drogueref20_Alike.j3, okR, hx]
      cases x with
      | true => exact Ev.pos rfl (Ev.const (by simp))
      | false =>
        refine Ev.neg (by decide) ?_
        rw [w64n j (by omega)]
        simpa using ih
    have hcn : (((rd_T26 a (j : Int)).f1 == (rd_T26 a (i : Int)).f1) != ((rd_T26 b (j : Int)).f1 == (rd_T26 b (i : Int)).f1)) = !cnd a b i j := by
      unfold cnd
      rfl
    refine Ev.step ?_
    simp only [drogueref20_Alike.l1]
    refine Ev.pos (by omega) ?_
    refine Ev.pos (by omega) ?_
    refine Ev.pos (by omega) ?_
    by_cases h1 : (rd_T26 a (j : Int)).f0 = 1
    · refine Ev.pos h1 ?_
      refine Ev.pos (by omega) ?_
      refine Ev.pos (by omega) ?_
      refine Ev.pos (by omega) ?_
      refine Ev.pos (by omega) ?_
      refine hj _ ?_
      rw [hcn]
      unfold isNum
      simp [h1]
    · refine Ev.neg h1 ?_
      by_cases h2 : (rd_T26 a (j : Int)).f0 = 2
      · refine Ev.pos h2 ?_
        refine Ev.pos (by omega) ?_
        refine Ev.pos (by omega) ?_
        refine Ev.pos (by omega) ?_
        refine Ev.pos (by omega) ?_
        refine hj _ ?_
        rw [hcn]
        unfold isNum
        simp [h2]
      · refine Ev.neg h2 ?_
        refine hj _ ?_
        unfold isNum
        simp [h1, h2]
theorem alike_r0 (a b : List S26) (hab : a.length = b.length) (hl : a.length ≤ 100000) : ∀ (m i : Nat), i + m = a.length → Ev (fun k => drogueref20_Alike.l0 k a b (i : Int)) (relB (a.drop i) (b.drop i) (pairsTo a b i))
  | 0, i, h => by
    refine Ev.step ?_
    simp only [drogueref20_Alike.l0]
    rw [show a.drop i = [] from List.drop_eq_nil_of_le (by omega), show b.drop i = [] from List.drop_eq_nil_of_le (by omega)]
    exact Ev.neg (by omega) (Ev.pure _)
  | m + 1, i, h => by
    have hlt : i < a.length := by omega
    have ih := alike_r0 a b hab hl m (i + 1) (by omega)
    have hj : ∀ x : Bool, isNum (rd_T26 a (i : Int)) = !x → (rd_T26 a (i : Int)).f0 = (rd_T26 b (i : Int)).f0 → Ev (fun k => drogueref20_Alike.j1 k a b (i : Int) x) (relB (rd_T26 a (i : Int) :: a.drop (i + 1)) (rd_T26 b (i : Int) :: b.drop (i + 1)) (pairsTo a b i)) := by
      intro x hx h0
      refine Ev.step ?_
      simp only [drogueref20_Alike.j1, relB]
      unfold pairsTo at ih
      rw [hx] at ih ⊢
      rw [show ((rd_T26 a (i : Int)).f0 == (rd_T26 b (i : Int)).f0) = true by simpa using h0, Bool.true_and]
      cases x with
      | true =>
        simp only [Bool.not_true, Bool.false_eq_true, if_false] at ih ⊢
        refine Ev.pos trivial ?_
        refine Ev.pos (by omega) ?_
        refine Ev.pos (by omega) ?_
        refine Ev.pos (by omega) ?_
        by_cases h1 : (rd_T26 a (i : Int)).f1 = (rd_T26 b (i : Int)).f1
        · refine Ev.pos h1 ?_
          rw [w64n i (by omega)]
          simpa [h1] using ih
        · refine Ev.neg h1 (Ev.const ?_)
          simp [h1]
      | false =>
        simp only [Bool.not_false, if_true] at ih ⊢
        refine Ev.neg (by decide) ?_
        rw [← okR_pairs]
        exact alike_r1 a b hab hl i hlt _ ih i 0 (by omega)
    refine Ev.step ?_
    simp only [drogueref20_Alike.l0]
    refine Ev.pos (by omega) ?_
    refine Ev.pos (by omega) ?_
    refine Ev.pos (by omega) ?_
    rw [drop_rd' a i hlt, drop_rd' b i (by omega)]
    by_cases h0 : (rd_T26 a (i : Int)).f0 = (rd_T26 b (i : Int)).f0
    · refine Ev.pos h0 ?_
      by_cases h1 : (rd_T26 a (i : Int)).f0 = 1
      · exact Ev.pos h1 (hj false (by unfold isNum; simp [h1]) h0)
      · refine Ev.neg h1 (hj ((rd_T26 a (i : Int)).f0 != 2) ?_ h0)
        unfold isNum
        rw [show ((rd_T26 a (i : Int)).f0 == 1) = false by simpa using h1]
        simp [bne]
    · refine Ev.neg h0 (Ev.const ?_)
      simp [relB, h0]
theorem refalike_ev (a b : List S26) (hl : a.length ≤ 100000) : Ev (fun k => drogueref20_Alike.f k a b) (eqL (renAll a) (renAll b)) := by
  unfold drogueref20_Alike.f
  by_cases h : a.length = b.length
  · refine Ev.pos (by omega) ?_
    rw [alike_rel]
    exact alike_r0 a b h hl a.length 0 (by omega)
  · refine Ev.neg (by omega) (Ev.const ?_)
    congr 1
    symm
    rw [Bool.eq_false_iff]
    intro he
    have h1 := congrArg List.length ((eqL_iff _ _).1 he)
    unfold renAll at h1
    rw [renGo_len, renGo_len] at h1
    exact h h1
/-! ### Sound -/
theorem mem_delL (x n : Int) (zs : List Int) : x ∈ delL n zs ↔ x ∈ zs ∧ x ≠ n := by
  unfold delL
  rw [List.mem_filter]
  simp
theorem sound_last (l : List S26) (hl : l.length ≤ 100000) (x3 : Int) (x4 : Bool) (i : Nat) (h0 : 0 < i) (hi : i ≤ l.length) (h7 : (rd_T26 l ((i - 1 : Nat) : Int)).f0 = 7) : Ev (fun k => drogueref20_Sound.l0 k l x3 x4 (i : Int)) (decide (i = l.length)) := by
  refine Ev.step ?_
  simp only [drogueref20_Sound.l0]
  by_cases hlt : i < l.length
  · rw [decide_eq_false (by omega)]
    refine Ev.pos (by omega) ?_
    refine Ev.pos (by omega) ?_
    refine Ev.bind (rright_ev _ _) ?_
    have wm : wrap64 ((i : Int) - 1) = ((i - 1 : Nat) : Int) := by unfold wrap64; omega
    have hj : ∀ x : Bool, x = true → Ev (fun k => drogueref20_Sound.j1 k l x3 x4 (i : Int) x (rd_T26 l (i : Int)).f0 (rd_T26 l (i : Int)).f1) false := by
      intro x hx
      refine Ev.step ?_
      simp only [drogueref20_Sound.j1]
      exact Ev.pos hx (Ev.pure _)
    by_cases he : evB (rd_T26 l (i : Int)).f0 (rd_T26 l (i : Int)).f1 = true
    · refine Ev.pos he ?_
      refine Ev.pos (by omega) ?_
      rw [wm]
      refine Ev.pos (by omega) ?_
      refine Ev.pos (by omega) ?_
      exact hj _ (by rw [h7]; rfl)
    · refine Ev.neg he ?_
      exact hj _ rfl
  · rw [decide_eq_true (by omega)]
    exact Ev.neg (by omega) (Ev.pure _)
theorem sound_l0 (l : List S26) (hl : l.length ≤ 100000) : ∀ (m i : Nat) (fr : Int → Bool) (al : Int) (pa : Bool), i + m = l.length → 0 ≤ al → al ≤ i → (∀ n, fr n = true → n ≤ al) → (∀ n, n ∈ liveF (l.take i) ↔ (1 ≤ n ∧ n ≤ al ∧ fr n = false)) →
    (0 < i → (rd_T26 l ((i - 1 : Nat) : Int)).f0 ≠ 7) → Ev (fun k => drogueref20_Sound.l0 k l (al + 1) pa (i : Int)) (soundL (l.drop i) fr al pa)
  | 0, i, fr, al, pa, h, ha0, ha1, hf, hv, hp => by
    refine Ev.step ?_
    simp only [drogueref20_Sound.l0]
    rw [List.drop_eq_nil_of_le (by omega)]
    exact Ev.neg (by omega) (Ev.pure _)
  | m + 1, i, fr, al, pa, h, ha0, ha1, hf, hv, hp => by
    have hlt : i < l.length := by omega
    have wm : 0 < i → wrap64 ((i : Int) - 1) = ((i - 1 : Nat) : Int) := by intro h; unfold wrap64; omega
    have hts : l.take (i + 1) = l.take i ++ [rd_T26 l (i : Int)] := take_snoc l i hlt
    have hlive := liveF_snoc (l.take i) (rd_T26 l (i : Int))
    rw [← hts] at hlive
    have ih := fun fr' al' pa' h1 h2 h3 h4 h5 => sound_l0 l hl m (i + 1) fr' al' pa' (by omega) h1 h2 h3 h4 (fun _ => h5)
    have hlast := fun h7 => sound_last l hl (al + 1) pa (i + 1) (by omega) (by omega) h7
    rw [show i + 1 - 1 = i by omega] at ih hlast
    have wi := w64n i (by omega)
    rw [drop_rd' l i hlt]
    have hlr := reflive_ev (l.take i) (by rw [List.length_take]; omega)
    have hll : (liveF (l.take i)).length ≤ 100000 := by
      have := fold_len (l.take i) []
      unfold liveF
      rw [List.length_take] at this
      simp at this
      omega
    refine Ev.step ?_
    simp only [drogueref20_Sound.l0]
    refine Ev.pos (by omega) ?_
    refine Ev.pos (by omega) ?_
    refine Ev.bind (rright_ev _ _) ?_
    generalize rd_T26 l (i : Int) = e at *
    have hj : ∀ x : Bool, x = !evB e.f0 e.f1 → Ev (fun k => drogueref20_Sound.j1 k l (al + 1) pa (i : Int) x e.f0 e.f1) (soundL (e :: l.drop (i + 1)) fr al pa) := by
      intro x hx
      subst hx
      refine Ev.step ?_
      simp only [drogueref20_Sound.j1, soundL]
      cases he : evB e.f0 e.f1 with
      | false => exact Ev.pos rfl (Ev.const (by simp))
      | true =>
        rw [Bool.true_and]
        refine Ev.neg (by decide) ?_
        have hc := evB_cases he
        by_cases k1 : e.f0 = 1
        · refine Ev.pos k1 ?_
          rw [if_pos k1]
          by_cases hn : e.f1 = al + 1
          · refine Ev.pos hn ?_
            rw [decide_eq_true hn, Bool.true_and, wi, show wrap64 (al + 1 + 1) = al + 1 + 1 by unfold wrap64; omega]
            refine ih fr (al + 1) pa (by omega) (by omega) (fun n hfn => by have := hf n hfn; omega) (fun n => ?_) (by rw [k1]; decide)
            rw [hlive]
            unfold liveStep
            rw [if_pos k1, List.mem_append, mem_delL, hv n, List.mem_singleton, hn]
            constructor
            · rintro (⟨⟨h1, h2, h3⟩, h4⟩ | h1)
              · exact ⟨h1, by omega, h3⟩
              · refine ⟨by omega, by omega, ?_⟩
                rw [Bool.eq_false_iff]
                intro ht
                have := hf n ht
                omega
            · rintro ⟨h1, h2, h3⟩
              by_cases hq : n = al + 1
              · exact Or.inr hq
              · exact Or.inl ⟨⟨h1, by omega, h3⟩, hq⟩
          · refine Ev.neg hn (Ev.const ?_)
            simp [hn]
        · refine Ev.neg k1 ?_
          rw [if_neg k1]
          by_cases k2 : e.f0 = 2
          · refine Ev.pos k2 ?_
            rw [if_pos k2]
            have h1n : 1 ≤ e.f1 := by omega
            refine Ev.pos (by omega) ?_
            refine Ev.pos (by omega) ?_
            refine Ev.bind hlr ?_
            refine Ev.bind (has_ev _ _ hll) ?_
            by_cases hm : e.f1 ∈ liveF (l.take i)
            · obtain ⟨_, h2, h3⟩ := (hv e.f1).1 hm
              refine Ev.pos (by simpa using hm) ?_
              rw [decide_eq_true h2, h3, wi]
              simp only [Bool.true_and, Bool.not_false]
              refine ih (setB fr e.f1) al pa ha0 (by omega) (fun n hfn => ?_) (fun n => ?_) (by rw [k2]; decide)
              · unfold setB at hfn
                split at hfn
                · omega
                · exact hf n hfn
              · rw [hlive]
                unfold liveStep
                rw [if_neg k1, if_pos k2, mem_delL, hv n]
                unfold setB
                by_cases hq : n = e.f1
                · simp [hq]
                · simp [hq]
            · refine Ev.neg (by simpa using hm) (Ev.const ?_)
              congr 1
              symm
              rw [Bool.eq_false_iff]
              intro ht
              simp only [Bool.and_eq_true, decide_eq_true_eq, Bool.not_eq_true'] at ht
              exact hm ((hv e.f1).2 ⟨h1n, ht.1, ht.2.1⟩)
          · refine Ev.neg k2 ?_
            rw [if_neg k2]
            have hstay : liveStep (liveF (l.take i)) e = liveF (l.take i) := by unfold liveStep; rw [if_neg k1, if_neg k2]
            rw [hstay] at hlive
            rw [← hlive] at hv
            by_cases k5 : e.f0 = 5
            · refine Ev.pos k5 ?_
              rw [if_pos k5, wi]
              exact ih fr al true ha0 (by omega) hf hv (by rw [k5]; decide)
            · refine Ev.neg k5 ?_
              rw [if_neg k5]
              by_cases k6 : e.f0 = 6
              · refine Ev.pos k6 ?_
                rw [if_pos k6]
                cases pa with
                | true =>
                  refine Ev.pos rfl ?_
                  rw [wi, Bool.true_and]
                  exact ih fr al false ha0 (by omega) hf hv (by rw [k6]; decide)
                | false => exact Ev.neg (by decide) (Ev.const rfl)
              · refine Ev.neg k6 ?_
                rw [if_neg k6, wi]
                by_cases k7 : e.f0 = 7
                · rw [if_pos k7]
                  have := hlast k7
                  have hr : ((l.drop (i + 1)).isEmpty && soundL (l.drop (i + 1)) fr al pa) = decide (i + 1 = l.length) := by
                    by_cases hend : i + 1 = l.length
                    · rw [show l.drop (i + 1) = [] from List.drop_eq_nil_of_le (by omega), decide_eq_true hend]
                      rfl
                    · rw [decide_eq_false hend]
                      have : (l.drop (i + 1)).isEmpty = false := by
                        rw [Bool.eq_false_iff]
                        intro ht
                        rw [List.isEmpty_iff, List.drop_eq_nil_iff] at ht
                        omega
                      rw [this]
                      rfl
                  rw [hr]
                  exact this
                · rw [if_neg k7]
                  exact ih fr al pa ha0 (by omega) hf hv k7
    by_cases he : evB e.f0 e.f1 = true
    · refine Ev.pos he ?_
      by_cases h0 : 0 < i
      · refine Ev.pos (by omega) ?_
        rw [wm h0]
        refine Ev.pos (by omega) ?_
        refine Ev.pos (by omega) ?_
        exact hj _ (by rw [he]; simpa using hp h0)
      · refine Ev.neg (by omega) ?_
        exact hj _ (by rw [he]; rfl)
    · refine Ev.neg he ?_
      exact hj _ (by simp [he])
theorem refsound_ev (l : List S26) (hl : l.length ≤ 100000) : Ev (fun k => drogueref20_Sound.f k l) (soundL l (fun _ => false) 0 false) := by
  have := sound_l0 l hl l.length 0 (fun _ => false) 0 false (by omega) (Int.le_refl _) (Int.le_refl _) (fun n h => by cases h) (fun n => by simp [liveF]; omega) (fun h => absurd h (by omega))
  rw [List.drop_zero] at this
  exact this
theorem traceRows_pure (a b : List S26) (ha : i64s a = true) (hb : i64s b = true) : ∃ k, droguelaw20_TraceRows.f k a b = some true := by
  refine Ev.some_of ?_
  unfold droguelaw20_TraceRows.f
  refine Ev.bind (Ev.const (r := true) rfl) ?_
  refine Ev.pos rfl ?_
  by_cases la : (a.length : Int) > 100
  · refine Ev.pos la ?_
    refine Ev.step ?_
    simp only [droguelaw20_TraceRows.j0]
    exact Ev.pos trivial (Ev.pure _)
  · refine Ev.neg la ?_
    refine Ev.step ?_
    simp only [droguelaw20_TraceRows.j0]
    by_cases lb : (b.length : Int) > 100
    · exact Ev.pos (by simpa using lb) (Ev.pure _)
    · refine Ev.neg (by simpa using lb) ?_
      have hs : trace_Sound.f a = some (soundL a (fun _ => false) 0 false) := if_pos ⟨ha, by omega⟩
      have hv : trace_Live.f a = some (liveF a) := if_pos (by omega)
      have hvl : (liveF a).length ≤ 100000 := by
        have := fold_len a []
        unfold liveF
        simp at this
        omega
      refine Ev.bind (Ev.const hs) ?_
      refine Ev.bind (refsound_ev a (by omega)) ?_
      refine Ev.pos (by simp) ?_
      refine Ev.bind (Ev.const hv) ?_
      refine Ev.bind (reflive_ev a (by omega)) ?_
      refine Ev.bind (numbers_ev _ hvl) ?_
      refine Ev.pos rfl ?_
      refine Ev.bind (front_ev a b (by omega)) ?_
      refine Ev.bind (reffront_ev a b (by omega)) ?_
      refine Ev.pos (by simp) ?_
      refine Ev.bind (Ev.const (alike_get a b ha hb (by omega) (by omega))) ?_
      refine Ev.bind (refalike_ev a b (by omega)) ?_
      simp only [beq_self_eq_true]
      exact Ev.pure _
end Go.Proofs.YtlkppkmfpinocaaDoor.PT
