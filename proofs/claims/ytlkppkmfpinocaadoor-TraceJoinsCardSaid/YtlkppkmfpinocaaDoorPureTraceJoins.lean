/- TraceJoins: the plain law. -/
import Derived.Test.YtlkppkmfpinocaaDoorPTx11
import Derived.Test.YtlkppkmfpinocaaDoorTrEv
namespace Go.Proofs.YtlkppkmfpinocaaDoor.PT
open Go.RowKit Go.Proofs.YtlkppkmfpinocaaDoorW.PrintWords Go.Proofs.YtlkppkmfpinocaaDoorW.PrintLast Go.Proofs.YtlkppkmfpinocaaDoorW.PrintMore
set_option linter.unusedVariables false
set_option linter.unusedSimpArgs false

def RightsTo (l : List S26) (i : Nat) : Prop := ∀ (j : Nat) (h : j < l.length), j < i → evB (l[j]).f0 (l[j]).f1 = true
theorem rights_to {l : List S26} (h : RightsTo l l.length) : rights l = l := by
  refine rights_all fun e he => ?_
  obtain ⟨j, hj, rfl⟩ := List.getElem_of_mem he
  exact h j hj hj
theorem joins_end (a b : List S26) (ha : i64s a = true) (hb : i64s b = true) (la : a.length ≤ 100) (lb : b.length ≤ 100) (hr : RightsTo (a ++ b) (a.length + b.length)) : Ev (fun k => droguelaw20_TraceJoins.l0 k a b ((a.length + b.length : Nat) : Int)) true := by
  have hR : rights (a ++ b) = a ++ b := rights_to (by rw [List.length_append]; exact hr)
  have hi := i64s_app ha hb
  have ta := textL_len2 a ha
  have tb := textL_len2 b hb
  refine Ev.step ?_
  simp only [droguelaw20_TraceJoins.l0]
  refine Ev.neg (by unfold wrap64; omega) ?_
  refine Ev.bind (Ev.pure _) ?_
  refine Ev.pos (by simp; omega) ?_
  refine Ev.bind (Ev.pure _) ?_
  refine Ev.pos (by simp; omega) ?_
  refine Ev.bind (Ev.pure _) ?_
  simp only [List.nil_append]
  refine Ev.bind (Ev.const (text_get _ hi (by simp; omega))) ?_
  refine Ev.bind (Ev.const (parse_get _ hi (by simp; omega))) ?_
  refine Ev.bind (Ev.const (text_get _ ha (by omega))) ?_
  refine Ev.bind (Ev.const (text_get _ hb (by omega))) ?_
  refine Ev.pos (by rw [bs_size, bs_size]; omega) ?_
  refine Ev.pos (by rw [bs_app, textL_app]) ?_
  refine Ev.pos rfl ?_
  refine Ev.pos rfl ?_
  simp only [hR]
  refine Ev.bind (same_ev _ _ (by simp; omega)) ?_
  refine Ev.pos (eqL_rfl _) ?_
  refine Ev.bind (front_ev _ _ (by omega)) ?_
  refine Ev.pos (frontB_app _ _) ?_
  refine Ev.bind (Ev.const (alike_get _ _ hi hi (by simp; omega) (by simp; omega))) ?_
  rw [eqL_rfl]
  exact Ev.pure _
theorem joins_l0 (a b : List S26) (ha : i64s a = true) (hb : i64s b = true) (la : a.length ≤ 100) (lb : b.length ≤ 100) : ∀ (m i : Nat), i + m = a.length + b.length → RightsTo (a ++ b) i → Ev (fun k => droguelaw20_TraceJoins.l0 k a b (i : Int)) true
  | 0, i, h, hr => by
    obtain rfl : i = a.length + b.length := by omega
    exact joins_end a b ha hb la lb hr
  | m + 1, i, h, hr => by
    have hi := i64s_app ha hb
    have wx : wrap64 ((i : Int) + 1) = ((i + 1 : Nat) : Int) := by unfold wrap64; omega
    have hj : ∀ e : S26, (∀ (h : i < (a ++ b).length), e = (a ++ b)[i]) → Ev (fun k => droguelaw20_TraceJoins.j2 k a b (i : Int) e.f0 e.f1) true := by
      intro e he
      have hil : i < (a ++ b).length := by simp; omega
      have hii : i64B e.f1 = true := by
        rw [he hil]
        exact List.all_eq_true.1 hi _ (List.getElem_mem hil)
      refine Ev.step ?_
      simp only [droguelaw20_TraceJoins.j2]
      refine Ev.bind (right_ev _ _ hii) ?_
      by_cases hv : evB e.f0 e.f1 = true
      · refine Ev.pos hv ?_
        rw [wx]
        refine joins_l0 a b ha hb la lb m (i + 1) (by omega) fun j h1 h2 => ?_
        rcases Nat.lt_or_ge j i with h3 | h3
        · exact hr j h1 h3
        · obtain rfl : j = i := by omega
          rw [← he hil]
          exact hv
      · refine Ev.neg hv ?_
        exact Ev.pure _
    refine Ev.step ?_
    simp only [droguelaw20_TraceJoins.l0]
    refine Ev.pos (by unfold wrap64; omega) ?_
    by_cases hlt : i < a.length
    · refine Ev.pos (by omega) ?_
      refine Ev.pos (by omega) ?_
      refine hj _ fun h1 => ?_
      rw [rd_mem a i hlt, List.getElem_append_left hlt]
    · have w2 : wrap64 ((i : Int) - (a.length : Int)) = ((i - a.length : Nat) : Int) := by unfold wrap64; omega
      refine Ev.neg (by omega) ?_
      rw [w2]
      refine Ev.pos (by omega) ?_
      refine Ev.pos (by omega) ?_
      refine hj _ fun h1 => ?_
      rw [rd_mem b (i - a.length) (by omega), List.getElem_append_right (by omega)]
theorem traceJoins_pure (a b : List S26) (ha : i64s a = true) (hb : i64s b = true) : ∃ k, droguelaw20_TraceJoins.f k a b = some true := by
  refine Ev.some_of ?_
  unfold droguelaw20_TraceJoins.f
  refine Ev.bind (Ev.const (r := true) rfl) ?_
  refine Ev.pos rfl ?_
  by_cases la : (a.length : Int) > 100
  · refine Ev.pos la ?_
    refine Ev.step ?_
    simp only [droguelaw20_TraceJoins.j0]
    exact Ev.pos trivial (Ev.pure _)
  · refine Ev.neg la ?_
    refine Ev.step ?_
    simp only [droguelaw20_TraceJoins.j0]
    by_cases lb : (b.length : Int) > 100
    · exact Ev.pos (by simpa using lb) (Ev.pure _)
    · refine Ev.neg (by simpa using lb) ?_
      exact joins_l0 a b ha hb (by omega) (by omega) (a.length + b.length) 0 (by omega) (fun j _ h => absurd h (by omega))
end Go.Proofs.YtlkppkmfpinocaaDoor.PT
