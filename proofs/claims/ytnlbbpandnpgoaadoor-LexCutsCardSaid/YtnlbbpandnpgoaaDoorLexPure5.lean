/- Plain law of layer 3: Same and the document's Name. -/
import Derived.Test.YtnlbbpandnpgoaaDoorLexPure4
import Derived.Test.YtnlbbpandnpgoaaDoorPLx5
namespace Go.Proofs.YtnlbbpandnpgoaaDoor.PL
open Go.RowKit Go.Proofs.YtnlbbpandnpgoaaDoorW.PrintWords Go.Proofs.YtnlbbpandnpgoaaDoorW.PrintLast Go.Proofs.YtnlbbpandnpgoaaDoorW.PrintMore
set_option linter.unusedVariables false
set_option linter.unusedSimpArgs false

theorem same_ev (xs : List S35) (hx : xs.length < 9223372036854775807) : ∀ (n i : Nat), i + n = xs.length → Ev (fun k => droguelaw03_Same.l0 k xs (xs.map to36) (i : Int)) true
  | 0, i, hi => by
    refine Ev.step ?_
    simp only [droguelaw03_Same.l0]
    exact Ev.neg (by omega) (Ev.pure _)
  | n + 1, i, hi => by
    have hlt : i < xs.length := by omega
    have h1 : rd_T35 xs (i : Int) = xs[i] := by
      unfold rd_T35
      simp [List.getD, hlt]
    have h2 : rd_T36 (xs.map to36) (i : Int) = to36 xs[i] := by
      unfold rd_T36
      simp [List.getD, hlt]
    refine Ev.step ?_
    simp only [droguelaw03_Same.l0]
    rw [h1, h2, w64s i (by omega)]
    refine Ev.pos (by omega) (Ev.pos (by omega) (Ev.pos (by simp; omega) (Ev.pos rfl (Ev.pos rfl (Ev.pos rfl (Ev.pos rfl ?_))))))
    exact same_ev xs hx n (i + 1) (by omega)
theorem same_of (xs : List S35) (hx : xs.length < 9223372036854775807) : Ev (fun k => droguelaw03_Same.f k xs (xs.map to36)) true := by
  unfold droguelaw03_Same.f
  exact Ev.pos (by simp) (same_ev xs hx xs.length 0 (by omega))

theorem span_full (p : Int → Bool) : ∀ (l : List UInt8), decide (spanN p l = l.length) = l.all fun c => p (c.toNat : Int)
  | [] => rfl
  | c :: l => by
    rw [spanN_cons, List.all_cons, ← span_full p l]
    by_cases h : p (c.toNat : Int) = true
    · rw [if_pos h, h, Bool.true_and]
      simp
    · have hf : p (c.toNat : Int) = false := by simpa using h
      rw [if_neg h, hf, Bool.false_and]
      simp
theorem shaped_ev (s : ByteArray) (hs : s.size < 9223372036854775807) : ∀ (l : List UInt8) (i : Nat), 0 < i → At s i l → Ev (fun k => drogueref03_shaped.l0 k s (i : Int)) (l.all fun c => innerB (c.toNat : Int))
  | [], i, h0, ha => by
    have := ha.nil
    refine Ev.step ?_
    simp only [drogueref03_shaped.l0]
    refine Ev.neg (by omega) ?_
    rw [decide_eq_true (by omega)]
    exact Ev.pure _
  | c :: l, i, h0, ha => by
    have hlt := ha.lt
    have ih := shaped_ev s hs l (i + 1) (by omega) ha.tl
    refine Ev.step ?_
    simp only [drogueref03_shaped.l0]
    rw [ha.bt, w64s i (by omega), List.all_cons]
    refine Ev.pos hlt (Ev.pos (by omega) (Ev.bind (Ev.const (refletter_f _)) ?_))
    by_cases hc : isLetB (c.toNat : Int) = true
    · refine Ev.pos hc ?_
      rw [let_inner _ hc, Bool.true_and]
      exact ih
    · have hcf : isLetB (c.toNat : Int) = false := by simpa using hc
      refine Ev.neg hc (Ev.neg (by omega) (Ev.bind (Ev.const (refdigit_f _)) ?_))
      by_cases hd : isDigB (c.toNat : Int) = true
      · refine Ev.pos hd ?_
        have e : innerB (c.toNat : Int) = true := by unfold innerB; rw [hcf, hd]; rfl
        rw [e, Bool.true_and]
        exact ih
      · have hdf : isDigB (c.toNat : Int) = false := by simpa using hd
        refine Ev.neg hd ?_
        by_cases h95 : (c.toNat : Int) = 95
        · refine Ev.pos h95 ?_
          have e : innerB (c.toNat : Int) = true := by rw [h95]; rfl
          rw [e, Bool.true_and]
          exact ih
        · refine Ev.neg h95 ?_
          have e : innerB (c.toNat : Int) = false := by
            unfold innerB
            rw [hcf, hdf, Bool.false_or, Bool.false_or]
            simpa using h95
          rw [e, Bool.false_and]
          exact Ev.pure _
def shapedB : List UInt8 → Bool
  | [] => false
  | c :: l => isLetB (c.toNat : Int) && l.all fun c => innerB (c.toNat : Int)
theorem shapedB_cons (c : UInt8) (l : List UInt8) : shapedB (c :: l) = (isLetB (c.toNat : Int) && l.all fun c => innerB (c.toNat : Int)) := rfl
theorem shaped_of (s : ByteArray) (hs : s.size < 9223372036854775807) : Ev (fun k => drogueref03_shaped.f k s) (shapedB s.data.toList) := by
  unfold drogueref03_shaped.f
  have ha := At.zero s
  generalize s.data.toList = l at ha
  refine Ev.step ?_
  simp only [drogueref03_shaped.l0]
  cases l with
  | nil =>
    have := ha.nil
    refine Ev.neg (by omega) ?_
    rw [decide_eq_false (by omega)]
    exact Ev.pure _
  | cons c l =>
    have hlt := ha.lt
    have hbt : bt s 0 = (c.toNat : Int) := ha.bt
    have hw : wrap64 (0 + 1) = ((1 : Nat) : Int) := w64s 0 (by omega)
    rw [hbt, hw]
    refine Ev.pos hlt (Ev.pos (by omega) (Ev.bind (Ev.const (refletter_f _)) ?_))
    rw [shapedB_cons]
    by_cases hc : isLetB (c.toNat : Int) = true
    · refine Ev.pos hc ?_
      rw [hc, Bool.true_and]
      exact shaped_ev s hs l 1 (by omega) ha.tl
    · have hcf : isLetB (c.toNat : Int) = false := by simpa using hc
      refine Ev.neg hc (Ev.pos trivial ?_)
      rw [hcf, Bool.false_and]
      exact Ev.pure _
theorem refname_ev (s : ByteArray) (hs : s.size < 9223372036854775807) : Ev (fun k => drogueref03_Name.f k s) (nameB s) := by
  have hsh := shaped_of s hs
  unfold drogueref03_Name.f
  refine Ev.bind hsh ?_
  have hz := size_l s
  unfold nameB
  generalize hl : s.data.toList = l at *
  cases l with
  | nil => exact Ev.neg (by simp [shapedB]) (Ev.pure _)
  | cons c l =>
    have e : decide (spanN innerB (c :: l) = s.size) = (innerB (c.toNat : Int) && l.all fun c => innerB (c.toNat : Int)) := by
      rw [← hz, span_full, List.all_cons]
    simp only [e]
    rw [shapedB_cons]
    by_cases hc : isLetB (c.toNat : Int) = true
    · rw [hc, let_inner _ hc]
      simp only [Bool.true_and]
      cases hall : l.all fun c => innerB (c.toNat : Int) with
      | false =>
        refine Ev.neg (by decide) ?_
        rw [Bool.and_false, Bool.and_false]
        exact Ev.pure _
      | true =>
        refine Ev.pos rfl ?_
        rw [Bool.and_true]
        by_cases h16 : s.size ≤ 16
        · refine Ev.pos (by omega) ?_
          rw [decide_eq_true h16, Bool.true_and]
          exact Ev.bind (refword_ev s) (Ev.pure _)
        · refine Ev.neg (by omega) ?_
          rw [decide_eq_false h16, Bool.false_and]
          exact Ev.pure _
    · have hcf : isLetB (c.toNat : Int) = false := by simpa using hc
      rw [hcf, Bool.false_and, Bool.false_and, Bool.and_false]
      exact Ev.neg (by decide) (Ev.pure _)
theorem word_ev (s : ByteArray) : Ev (fun k => lex_Word.f k s) (wordB s) := by
  refine ⟨100, fun k hk => ?_⟩
  obtain ⟨j, rfl⟩ : ∃ j, k = 100 + j := ⟨k - 100, by omega⟩
  clear hk
  induction j with
  | zero => exact word_f s
  | succ j ih => exact lex_Word.mono s (100 + j) _ ih
end Go.Proofs.YtnlbbpandnpgoaaDoor.PL
