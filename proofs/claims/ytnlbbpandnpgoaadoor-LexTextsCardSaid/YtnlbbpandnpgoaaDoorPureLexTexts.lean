import Derived.Test.YtnlbbpandnpgoaaDoorPLx9
import Derived.Test.YtnlbbpandnpgoaaDoorLexPure5
namespace Go.Proofs.YtnlbbpandnpgoaaDoor.Pure
open Go.RowKit Go.Proofs.YtnlbbpandnpgoaaDoor.PL
set_option linter.unusedVariables false

theorem LexTexts : droguelaw03_LexTexts.Pure := by
  intro a0 a1 h0 h1
  refine Ev.some_of ?_
  unfold droguelaw03_LexTexts.f
  refine Ev.bind (Ev.const (show droguelaw03_alive.f = some true from rfl)) (Ev.pos rfl ?_)
  by_cases hs : (a0.size : Int) > 17000
  · refine Ev.pos hs (Ev.step ?_)
    simp only [droguelaw03_LexTexts.j0]
    exact Ev.pos trivial (Ev.pure _)
  · refine Ev.neg hs (Ev.step ?_)
    simp only [droguelaw03_LexTexts.j0]
    by_cases h2 : (a1.size : Int) > 1000
    · exact Ev.pos (decide_eq_true h2) (Ev.pure _)
    · refine Ev.neg (by simpa using h2) ?_
      have hname : lex_Name.f a1 = some (nameB a1) := by
        unfold lex_Name.f
        rw [if_pos (by omega)]
      have hrest : Ev (fun k => ((lex_Word.f k a1).bind fun t178 => ((drogueref03_Word.f k a1).bind fun t179 => (if (t178 == t179) = true then ((lex_Name.f a1).bind fun t180 => ((drogueref03_Name.f k a1).bind fun t181 => (some (t180 == t181)))) else (some false))))) true := by
        refine Ev.bind (word_ev a1) (Ev.bind (refword_ev a1) (Ev.pos (by simp) ?_))
        rw [hname]
        refine Ev.bind (Ev.pure _) (Ev.bind (refname_ev a1 (by omega)) ?_)
        rw [beq_self_eq_true]
        exact Ev.pure _
      by_cases h3 : a0.size ≤ 16384
      · obtain ⟨R, hR⟩ := Lexes.total a0.data.toList.length a0.data.toList 0 (Nat.le_refl _)
        refine Ev.bind (Ev.const (lex_of h3 hR)) (Ev.bind (reflex_of h3 hR) ?_)
        have hsame : Ev (fun k => droguelaw03_Same.f k (progR [] R).1 (refR [] R).1) true := by
          cases R with
          | ok l =>
            have hl := hR.count
            rw [size_l] at hl
            exact same_of l (by omega)
          | error p => exact same_of [] (by decide)
        refine Ev.bind hsame (Ev.pos rfl (Ev.pos ?_ hrest))
        cases R <;> simp [progR, refR]
      · refine Ev.bind (Ev.const (lex_long (by omega))) (Ev.bind (reflex_long (by omega)) ?_)
        exact Ev.bind (same_of [] (by decide)) (Ev.pos rfl (Ev.pos (by decide) hrest))
end Go.Proofs.YtnlbbpandnpgoaaDoor.Pure
