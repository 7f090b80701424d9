/- TraceAlike: the plain law. -/
import Derived.Test.YtlkppkmfpinocaaDoorPTx10
import Derived.Test.YtlkppkmfpinocaaDoorTrRenPure
namespace Go.Proofs.YtlkppkmfpinocaaDoor.PT
open Go.RowKit Go.Proofs.YtlkppkmfpinocaaDoorW.PrintWords Go.Proofs.YtlkppkmfpinocaaDoorW.PrintLast Go.Proofs.YtlkppkmfpinocaaDoorW.PrintMore
set_option linter.unusedVariables false
set_option linter.unusedSimpArgs false

theorem u8_bounds {x : Int} (h : (Lit.int .u8 x).wf = true) : 0 ≤ x ∧ x ≤ 255 := by
  simp only [Lit.wf, Bool.and_eq_true, decide_eq_true_eq] at h
  obtain ⟨h0, h1⟩ := h
  exact ⟨h0, h1⟩
theorem alike_l0 (a b : List S26) (q : Int) (ha : i64s a = true) (hb : i64s b = true) (la : a.length ≤ 100) (lb : b.length ≤ 100) (q0 : 0 ≤ q) (q1 : q ≤ 255) :
    ∀ (m i : Nat) (x7 : List S26), i + m = a.length → x7 = (a.take i).map (up q) → i64s x7 = true → Ev (fun k => droguelaw20_TraceAlike.l0 k a b q x7 (i : Int)) true
  | 0, i, x7, h, hx, hi => by
    have hxa : x7 = a.map (up q) := by rw [hx, List.take_of_length_le (by omega)]
    have hl : x7.length = a.length := by rw [hxa, List.length_map]
    have hr : renAll x7 = renAll a := by rw [hxa]; exact up_alike q a
    refine Ev.step ?_
    simp only [droguelaw20_TraceAlike.l0]
    refine Ev.neg (by omega) ?_
    refine Ev.bind (Ev.const (alike_get a x7 ha hi (by omega) (by omega))) ?_
    refine Ev.pos (by rw [hr]; exact eqL_rfl _) ?_
    refine Ev.bind (Ev.const (alike_get a a ha ha (by omega) (by omega))) ?_
    refine Ev.pos (eqL_rfl _) ?_
    refine Ev.bind (Ev.const (alike_get a b ha hb (by omega) (by omega))) ?_
    refine Ev.bind (Ev.const (alike_get b a hb ha (by omega) (by omega))) ?_
    refine Ev.pos (by rw [eqL_comm]; simp) ?_
    refine Ev.bind (Ev.const (alike_get a b ha hb (by omega) (by omega))) ?_
    refine Ev.bind (Ev.const (alike_get x7 b hi hb (by omega) (by omega))) ?_
    rw [hr]
    simp only [beq_self_eq_true]
    exact Ev.pure _
  | m + 1, i, x7, h, hx, hi => by
    have wx : wrap64 ((i : Int) + 1) = ((i + 1 : Nat) : Int) := by unfold wrap64; omega
    have hlt : i < a.length := by omega
    have hii := i64s_rd ha i hlt
    have hts : a.take (i + 1) = a.take i ++ [rd_T26 a (i : Int)] := take_snoc a i hlt
    have hxl : x7.length ≤ 100 := by rw [hx, List.length_map, List.length_take]; omega
    refine Ev.step ?_
    simp only [droguelaw20_TraceAlike.l0]
    refine Ev.pos (by omega) ?_
    refine Ev.pos (by omega) ?_
    generalize rd_T26 a (i : Int) = e at *
    obtain ⟨b0, b1⟩ := i64B_of hii
    have next : ∀ e' : S26, e' = up q e → i64B e'.f1 = true → Ev (fun k => droguelaw20_TraceAlike.l0 k a b q (x7 ++ [e']) (wrap64 ((i : Int) + 1))) true := by
      intro e' he' hi'
      rw [wx]
      refine alike_l0 a b q ha hb la lb q0 q1 m (i + 1) _ (by omega) ?_ ?_
      · rw [hts, List.map_append, hx, he']
        rfl
      · refine i64s_app hi ?_
        unfold i64s
        simp [hi']
    have hnum : isNum e = true → Ev (fun k => droguelaw20_TraceAlike.j2 k a b q x7 (i : Int) (decide (e.f1 < 4611686018427387904)) e.f0 e.f1) true := by
      intro hn
      refine Ev.step ?_
      simp only [droguelaw20_TraceAlike.j2]
      by_cases hc : e.f1 < 4611686018427387904
      · refine Ev.pos (by simpa using hc) ?_
        refine Ev.pos (by omega) ?_
        have hw : wrap64 (e.f1 + wrap64 q) = e.f1 + q := by unfold wrap64; omega
        rw [hw]
        refine next _ (by unfold up; rw [hn]; rfl) ?_
        simp only [i64B, Bool.and_eq_true, decide_eq_true_eq]
        omega
      · refine Ev.neg (by simpa using hc) ?_
        unfold isNum at hn
        by_cases h1 : e.f0 = 1
        · exact Ev.pos h1 (Ev.pure _)
        · refine Ev.neg h1 ?_
          refine Ev.pos (by simpa [h1] using hn) (Ev.pure _)
    by_cases h1 : e.f0 = 1
    · refine Ev.pos h1 ?_
      exact hnum (by unfold isNum; simp [h1])
    · refine Ev.neg h1 ?_
      by_cases h2 : e.f0 = 2
      · refine Ev.pos h2 ?_
        exact hnum (by unfold isNum; simp [h2])
      · refine Ev.neg h2 ?_
        refine Ev.step ?_
        simp only [droguelaw20_TraceAlike.j2]
        refine Ev.neg (by decide) ?_
        refine Ev.neg h1 ?_
        refine Ev.neg h2 ?_
        refine Ev.pos (by omega) ?_
        refine next _ (by unfold up isNum; simp [h1, h2]) hii
theorem traceAlike_pure (a b : List S26) (q : Int) (ha : i64s a = true) (hb : i64s b = true) (hq : (Lit.int .u8 q).wf = true) : ∃ k, droguelaw20_TraceAlike.f k a b q = some true := by
  obtain ⟨q0, q1⟩ := u8_bounds hq
  refine Ev.some_of ?_
  unfold droguelaw20_TraceAlike.f
  refine Ev.bind (Ev.const (r := true) rfl) ?_
  refine Ev.pos rfl ?_
  by_cases la : (a.length : Int) > 100
  · refine Ev.pos la ?_
    refine Ev.step ?_
    simp only [droguelaw20_TraceAlike.j0]
    exact Ev.pos trivial (Ev.pure _)
  · refine Ev.neg la ?_
    refine Ev.step ?_
    simp only [droguelaw20_TraceAlike.j0]
    by_cases lb : (b.length : Int) > 100
    · exact Ev.pos (by simpa using lb) (Ev.pure _)
    · refine Ev.neg (by simpa using lb) ?_
      exact alike_l0 a b q ha hb (by omega) (by omega) q0 q1 a.length 0 [] (by omega) rfl rfl
end Go.Proofs.YtlkppkmfpinocaaDoor.PT
