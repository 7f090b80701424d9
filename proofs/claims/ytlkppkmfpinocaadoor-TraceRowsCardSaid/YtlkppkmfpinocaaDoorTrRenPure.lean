/- Package trace: two rows with their allocations numbered anew are the same exactly if their events are linked one to one. No program in sight. -/
import Derived.Test.YtlkppkmfpinocaaDoorTrEv
namespace Go.Proofs.YtlkppkmfpinocaaDoor.PT
open Go.RowKit Go.Proofs.YtlkppkmfpinocaaDoorW.PrintWords Go.Proofs.YtlkppkmfpinocaaDoorW.PrintLast Go.Proofs.YtlkppkmfpinocaaDoorW.PrintMore
set_option linter.unusedVariables false
set_option linter.unusedSimpArgs false

theorem eqL_cons (x y : S26) (a b : List S26) : eqL (x :: a) (y :: b) = ((x.f0 == y.f0) && ((x.f1 == y.f1) && eqL a b)) := by
  simp only [eqL, List.map_cons, List.cons.injEq, pr26, Prod.mk.injEq]
  rw [Bool.eq_iff_iff]
  simp only [decide_eq_true_eq, Bool.and_eq_true, beq_iff_eq]
  constructor
  · rintro ⟨⟨h1, h2⟩, h3⟩
    exact ⟨h1, h2, h3⟩
  · rintro ⟨h1, h2, h3⟩
    exact ⟨⟨h1, h2⟩, h3⟩
/-- two numberings, linked by the pairs seen -/
structure Lk (f g : Int → Option Int) (sz : Nat) (P : List (Int × Int)) : Prop where
  pair : ∀ p ∈ P, ∃ c, f p.1 = some c ∧ g p.2 = some c
  domf : ∀ x c, f x = some c → ∃ y, (x, y) ∈ P
  domg : ∀ y c, g y = some c → ∃ x, (x, y) ∈ P
  injf : ∀ x x' c, f x = some c → f x' = some c → x = x'
  injg : ∀ x x' c, g x = some c → g x' = some c → x = x'
  ltf : ∀ x c, f x = some c → c < (sz : Int)
  ltg : ∀ x c, g x = some c → c < (sz : Int)
theorem Lk.start : Lk (fun _ => none) (fun _ => none) 0 [] :=
  ⟨fun _ hp => (List.not_mem_nil hp).elim, fun _ _ h => (Option.some_ne_none _ h.symm).elim, fun _ _ h => (Option.some_ne_none _ h.symm).elim, fun _ _ _ h _ => (Option.some_ne_none _ h.symm).elim, fun _ _ _ h _ => (Option.some_ne_none _ h.symm).elim, fun _ _ h => (Option.some_ne_none _ h.symm).elim, fun _ _ h => (Option.some_ne_none _ h.symm).elim⟩
theorem Lk.sym {f g : Int → Option Int} {sz : Nat} {P : List (Int × Int)} (h : Lk f g sz P) {x y : Int} (hq : ∀ p ∈ P, p.1 = x ↔ p.2 = y) : (f x = none ↔ g y = none) ∧ (∀ c, f x = some c → g y = some c) := by
  have h1 : ∀ c, f x = some c → g y = some c := by
    intro c hc
    obtain ⟨y', hy'⟩ := h.domf x c hc
    obtain ⟨c', h1, h2⟩ := h.pair _ hy'
    have h3 := (hq _ hy').1 rfl
    simp only at h1 h2 h3
    rw [h3] at h2
    rw [hc] at h1
    rw [h2, ← h1]
  refine ⟨⟨fun hn => ?_, fun hn => ?_⟩, h1⟩
  · cases hg : g y with
    | none => rfl
    | some c =>
      obtain ⟨x', hx'⟩ := h.domg y c hg
      obtain ⟨c', h2, h3⟩ := h.pair _ hx'
      have h4 := (hq _ hx').2 rfl
      simp only at h2 h3 h4
      rw [h4, hn] at h2
      cases h2
  · cases hf : f x with
    | none => rfl
    | some c => rw [h1 c hf] at hn; cases hn
theorem Lk.head {f g : Int → Option Int} {sz : Nat} {P : List (Int × Int)} (h : Lk f g sz P) (x y : Int) : (f x).getD (sz : Int) = (g y).getD (sz : Int) ↔ ∀ p ∈ P, p.1 = x ↔ p.2 = y := by
  constructor
  · intro he p hp
    obtain ⟨c, h1, h2⟩ := h.pair p hp
    have hc := h.ltf _ _ h1
    constructor
    · rintro rfl
      rw [h1] at he
      simp only [Option.getD_some] at he
      cases hg : g y with
      | none => rw [hg] at he; simp at he; omega
      | some c' =>
        rw [hg] at he
        simp at he
        subst he
        exact h.injg _ _ _ h2 hg
    · rintro rfl
      rw [h2] at he
      simp only [Option.getD_some] at he
      cases hf : f x with
      | none => rw [hf] at he; simp at he; omega
      | some c' =>
        rw [hf] at he
        simp at he
        subst he
        exact h.injf _ _ _ h1 hf
  · intro hq
    obtain ⟨h1, h2⟩ := h.sym hq
    cases hf : f x with
    | none => rw [h1.1 hf]
    | some c => rw [h2 c hf]
theorem Lk.step {f g : Int → Option Int} {sz : Nat} {P : List (Int × Int)} (h : Lk f g sz P) (x y : Int) (hq : ∀ p ∈ P, p.1 = x ↔ p.2 = y) :
    (if (f x).isSome then sz else sz + 1) = (if (g y).isSome then sz else sz + 1) ∧ Lk (if (f x).isSome then f else setI f x (sz : Int)) (if (g y).isSome then g else setI g y (sz : Int)) (if (f x).isSome then sz else sz + 1) ((x, y) :: P) := by
  obtain ⟨h1, h2⟩ := h.sym hq
  cases hf : f x with
  | some c =>
    have hg := h2 c hf
    rw [hg]
    simp only [Option.isSome_some, if_true]
    refine ⟨trivial, ⟨fun p hp => ?_, fun z d hz => ?_, fun z d hz => ?_, h.injf, h.injg, h.ltf, h.ltg⟩⟩
    · rcases List.mem_cons.1 hp with rfl | hp
      · exact ⟨c, hf, hg⟩
      · exact h.pair p hp
    · obtain ⟨q, hq⟩ := h.domf z d hz
      exact ⟨q, List.mem_cons_of_mem _ hq⟩
    · obtain ⟨q, hq⟩ := h.domg z d hz
      exact ⟨q, List.mem_cons_of_mem _ hq⟩
  | none =>
    have hg := h1.1 hf
    rw [hg]
    simp only [Option.isSome_none, if_false, Bool.false_eq_true]
    refine ⟨trivial, ⟨fun p hp => ?_, fun z d hz => ?_, fun z d hz => ?_, fun z z' d hz hz' => ?_, fun z z' d hz hz' => ?_, fun z d hz => ?_, fun z d hz => ?_⟩⟩
    · rcases List.mem_cons.1 hp with rfl | hp
      · exact ⟨sz, by simp [setI], by simp [setI]⟩
      · obtain ⟨c, h3, h4⟩ := h.pair p hp
        refine ⟨c, ?_, ?_⟩
        · unfold setI
          rw [if_neg (by intro e; rw [e, hf] at h3; cases h3)]
          exact h3
        · unfold setI
          rw [if_neg (by intro e; rw [e, hg] at h4; cases h4)]
          exact h4
    · unfold setI at hz
      split at hz
      · rename_i e
        subst e
        exact ⟨y, by simp⟩
      · obtain ⟨q, hq⟩ := h.domf z d hz
        exact ⟨q, List.mem_cons_of_mem _ hq⟩
    · unfold setI at hz
      split at hz
      · rename_i e
        subst e
        exact ⟨x, by simp⟩
      · obtain ⟨q, hq⟩ := h.domg z d hz
        exact ⟨q, List.mem_cons_of_mem _ hq⟩
    · unfold setI at hz hz'
      split at hz <;> split at hz'
      · rename_i e e'
        rw [e, e']
      · have := h.ltf _ _ hz'
        simp at hz
        omega
      · have := h.ltf _ _ hz
        simp at hz'
        omega
      · exact h.injf _ _ _ hz hz'
    · unfold setI at hz hz'
      split at hz <;> split at hz'
      · rename_i e e'
        rw [e, e']
      · have := h.ltg _ _ hz'
        simp at hz
        omega
      · have := h.ltg _ _ hz
        simp at hz'
        omega
      · exact h.injg _ _ _ hz hz'
    · unfold setI at hz
      split at hz
      · simp at hz
        omega
      · have := h.ltf _ _ hz
        omega
    · unfold setI at hz
      split at hz
      · simp at hz
        omega
      · have := h.ltg _ _ hz
        omega
/-- do two rows link one to one, after the pairs seen -/
def relB : List S26 → List S26 → List (Int × Int) → Bool
  | [], [], _ => true
  | e :: a, d :: b, P => (e.f0 == d.f0) && (if isNum e then (P.all fun p => (p.1 == e.f1) == (p.2 == d.f1)) && relB a b ((e.f1, d.f1) :: P) else (e.f1 == d.f1) && relB a b P)
  | _, _, _ => false
theorem all_iff (P : List (Int × Int)) (x y : Int) : (P.all fun p => (p.1 == x) == (p.2 == y)) = true ↔ ∀ p ∈ P, p.1 = x ↔ p.2 = y := by
  rw [List.all_eq_true]
  constructor
  · intro h p hp
    have h1 := h p hp
    rw [beq_iff_eq, Bool.eq_iff_iff, beq_iff_eq, beq_iff_eq] at h1
    exact h1
  · intro h p hp
    rw [beq_iff_eq, Bool.eq_iff_iff, beq_iff_eq, beq_iff_eq]
    exact h p hp
theorem ren_rel : ∀ (a b : List S26) (f g : Int → Option Int) (sz : Nat) (P : List (Int × Int)), Lk f g sz P → eqL (renGo a f sz) (renGo b g sz) = relB a b P
  | [], [], f, g, sz, P, h => by simp [renGo, relB, eqL]
  | [], d :: b, f, g, sz, P, h => by simp [renGo, relB, eqL]
  | e :: a, [], f, g, sz, P, h => by simp [renGo, relB, eqL]
  | e :: a, d :: b, f, g, sz, P, h => by
    simp only [renGo, eqL_cons, relB]
    have e0 : (renE f sz e).f0 = e.f0 := by unfold renE; split <;> rfl
    have d0 : (renE g sz d).f0 = d.f0 := by unfold renE; split <;> rfl
    rw [e0, d0]
    by_cases hk : e.f0 = d.f0
    · have hn : isNum d = isNum e := by unfold isNum; rw [hk]
      rw [show (e.f0 == d.f0) = true by simpa using hk, Bool.true_and, Bool.true_and]
      cases hne : isNum e with
      | false =>
        rw [hne] at hn
        unfold renE renF renS
        rw [hne, hn]
        simp only [Bool.false_eq_true, if_false]
        rw [ren_rel a b f g sz P h]
      | true =>
        rw [hne] at hn
        unfold renE renF renS
        rw [hne, hn]
        simp only [if_true]
        by_cases hq : ∀ p ∈ P, p.1 = e.f1 ↔ p.2 = d.f1
        · obtain ⟨h1, h2⟩ := h.step e.f1 d.f1 hq
          have h3 := (h.head e.f1 d.f1).2 hq
          rw [(all_iff P e.f1 d.f1).2 hq, show ((f e.f1).getD (sz : Int) == (g d.f1).getD (sz : Int)) = true by simpa using h3, Bool.true_and, Bool.true_and, ← h1]
          exact ren_rel a b _ _ _ _ h2
        · have h3 : ¬ (f e.f1).getD (sz : Int) = (g d.f1).getD (sz : Int) := fun he => hq ((h.head e.f1 d.f1).1 he)
          have h4 : (P.all fun p => (p.1 == e.f1) == (p.2 == d.f1)) = false := by
            rw [Bool.eq_false_iff]
            intro ht
            exact hq ((all_iff P e.f1 d.f1).1 ht)
          rw [h4, show ((f e.f1).getD (sz : Int) == (g d.f1).getD (sz : Int)) = false by simpa using h3]
          rfl
    · rw [show (e.f0 == d.f0) = false by simpa using hk]
      rfl
theorem alike_rel (a b : List S26) : eqL (renAll a) (renAll b) = relB a b [] := ren_rel a b _ _ 0 [] Lk.start
theorem eqL_comm (a b : List S26) : eqL a b = eqL b a := by
  unfold eqL
  rw [Bool.eq_iff_iff, decide_eq_true_eq, decide_eq_true_eq]
  exact eq_comm
/-- numbered higher by a number -/
def up (by_ : Int) (e : S26) : S26 := if isNum e then ⟨e.f0, e.f1 + by_⟩ else e
theorem up_rel (q : Int) : ∀ (a : List S26) (P : List (Int × Int)), (∀ p ∈ P, p.2 = p.1 + q) → relB a (a.map (up q)) P = true
  | [], P, h => rfl
  | e :: a, P, h => by
    simp only [List.map_cons, relB]
    unfold up
    cases hn : isNum e with
    | true =>
      simp only [if_true]
      rw [(all_iff P e.f1 (e.f1 + q)).2 (fun p hp => by have := h p hp; omega)]
      have h1 := up_rel q a ((e.f1, e.f1 + q) :: P) (fun p hp => by
        rcases List.mem_cons.1 hp with rfl | hp
        · rfl
        · exact h p hp)
      unfold up at h1
      rw [h1]
      simp
    | false =>
      simp only [Bool.false_eq_true, if_false]
      have h1 := up_rel q a P h
      unfold up at h1
      rw [h1]
      simp
theorem up_alike (q : Int) (a : List S26) : renAll (a.map (up q)) = renAll a := by
  have h := alike_rel a (a.map (up q))
  rw [up_rel q a [] (fun p hp => by cases hp)] at h
  exact ((eqL_iff _ _).1 h).symm
end Go.Proofs.YtlkppkmfpinocaaDoor.PT
