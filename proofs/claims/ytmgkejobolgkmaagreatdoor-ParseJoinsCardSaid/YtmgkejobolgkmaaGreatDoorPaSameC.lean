/- Package parse, in plain words: no list in what is read is longer than there are rounds. Package tree: Same answers true of programs that are the same up to places (printed by gensame.py). -/
import Derived.Test.YtmgkejobolgkmaaGreatDoorPaOne
import Derived.Test.YtmgkejobolgkmaaGreatDoorPaProg
import Derived.Test.YtmgkejobolgkmaaGreatDoorPaSimC
import Derived.RegionTactic
namespace Go.Proofs.YtmgkejobolgkmaaGreatDoor.PL
section
open Go Go.RowKit Go.Proofs.YtmgkejobolgkmaaGreatDoorW.PrintWords Go.Proofs.YtmgkejobolgkmaaGreatDoorW.PrintLast Go.Proofs.YtmgkejobolgkmaaGreatDoorW.PrintMore
set_option linter.unusedVariables false
set_option linter.unusedSimpArgs false

abbrev maxF : Nat := 200000
def Fl {α : Type} (F : α → Prop) (l : List α) : Prop := l.length ≤ maxF ∧ ∀ x ∈ l, F x
def FitP (x : SPlace) : Prop := x.f1.length ≤ maxF
def FitS (x : SStmt) : Prop := FitP x.f2 ∧ Fl FitP x.f6
def FitT (x : STerm) : Prop := FitP x.f2 ∧ Fl FitP x.f4 ∧ x.f5.length ≤ maxF ∧ x.f6.length ≤ maxF
def FitB (x : SBlock) : Prop := Fl FitS x.f2 ∧ FitT x.f3
def FitF (x : SFunc) : Prop := x.f2.length ≤ maxF ∧ x.f3.length ≤ maxF ∧ Fl FitB x.f5
def FitR (x : SStruct) : Prop := x.f4.length ≤ maxF
def FitE (x : SEnum) : Prop := x.f2.length ≤ maxF
def Fit (P : SProg) : Prop := Fl FitR P.f0 ∧ Fl FitE P.f1 ∧ Fl FitF P.f2
theorem Fl.nil {α : Type} (F : α → Prop) : Fl F [] := ⟨Nat.zero_le _, fun x hx => by cases hx⟩
/-- behind so many rounds -/
def Fk {α : Type} (F : α → Prop) (k : Nat) (l : List α) : Prop := l.length + k ≤ maxF ∧ ∀ x ∈ l, F x
theorem Fk.nil {α : Type} (F : α → Prop) {k : Nat} (h : k ≤ maxF) : Fk F k [] := ⟨by simpa using h, fun x hx => by cases hx⟩
theorem Fk.fl {α : Type} {F : α → Prop} {k : Nat} {l : List α} (h : Fk F k l) : Fl F l := ⟨by have := h.1; omega, h.2⟩
theorem Fk.snoc {α : Type} {F : α → Prop} {k : Nat} {l : List α} (h : Fk F (k + 1) l) {x : α} (hx : F x) : Fk F k (l ++ [x]) :=
  ⟨by have := h.1; simp only [List.length_append, List.length_singleton]; omega, fun y hy => by
    rcases List.mem_append.1 hy with hy | hy
    · exact h.2 y hy
    · rw [List.mem_singleton.1 hy]
      exact hx⟩
theorem Rd.steps_fit : ∀ (k : Nat) (s : Rd) (out : List ByteArray), (Rd.steps k s out).1.length ≤ out.length + k
  | 0, s, out => Nat.le_refl _
  | k + 1, s, out => by
    unfold Rd.steps
    split
    · split
      · have := Rd.steps_fit k ((s.may ⟨#[46]⟩).2.may ⟨#[42]⟩).2 (out ++ [⟨#[42]⟩])
        simp only [List.length_append, List.length_singleton] at this
        omega
      · have := Rd.steps_fit k ((s.may ⟨#[46]⟩).2.may ⟨#[42]⟩).2.name.2 (out ++ [((s.may ⟨#[46]⟩).2.may ⟨#[42]⟩).2.name.1])
        simp only [List.length_append, List.length_singleton] at this
        omega
    · show out.length ≤ _
      omega
theorem Rd.place_fit (s : Rd) : FitP s.place.1 := by
  have := Rd.steps_fit rdF s.name.2 []
  show (Rd.steps rdF s.name.2 []).1.length ≤ maxF
  simp only [List.length_nil, rdF, maxF] at *
  omega
theorem Rd.places_fit : ∀ (k : Nat) (s : Rd) (out : List SPlace), Fk FitP k out → Fl FitP (Rd.places k s out).1
  | 0, s, out, h => h.fl
  | k + 1, s, out, h => Rd.places_fit k s.place.2 _ (h.snoc s.place_fit)
theorem Rd.more_places_fit : ∀ (k : Nat) (s : Rd) (out : List SPlace), Fk FitP k out → Fl FitP (Rd.more_places k s out).1
  | 0, s, out, h => h.fl
  | k + 1, s, out, h => by
    unfold Rd.more_places
    split
    · exact Rd.more_places_fit k _ _ (h.snoc (Rd.place_fit _))
    · exact h.fl
theorem Rd.names_fit : ∀ (k : Nat) (s : Rd) (out : List ByteArray), (Rd.names k s out).1.length = out.length + k
  | 0, s, out => rfl
  | k + 1, s, out => by
    unfold Rd.names
    rw [Rd.names_fit k]
    simp only [List.length_append, List.length_singleton]
    omega
theorem Rd.row_fit {α : Type} {F : α → Prop} {one : Rd → α × Rd} (h1 : ∀ s, F (one s).1) : ∀ (k : Nat) (s : Rd) (out : List α), Fk F (k + 1) out → Fl F (Rd.row one k s out).1
  | 0, s, out, h => ⟨by have := h.1; show out.length ≤ _; omega, h.2⟩
  | k + 1, s, out, h => by
    unfold Rd.row
    split
    · exact Rd.row_fit h1 k _ _ (h.snoc (h1 _))
    · exact (h.snoc (h1 _)).fl
theorem Rd.args_fit (s : Rd) : Fl FitP s.args.1 := by
  unfold Rd.args
  simp only
  split
  · exact Fl.nil _
  · exact Rd.row_fit (F := FitP) Rd.place_fit rdF _ [] (Fk.nil _ (by decide))
theorem Rd.value_fit (s : Rd) (x : SStmt) (h : FitP x.f2) (h6 : x.f6 = []) : FitS (s.value x).1 := by
  have n0 : Fl FitP x.f6 := by rw [h6]; exact Fl.nil _
  unfold Rd.value
  split
  · exact ⟨h, n0⟩
  · split
    · simp only
      split
      · exact ⟨h, Rd.places_fit 2 _ [] (Fk.nil _ (by decide))⟩
      · split
        · exact ⟨h, Rd.more_places_fit rdF _ _ (by rw [h6]; exact Fk.nil _ (by decide))⟩
        · split
          · split
            · exact ⟨h, Rd.places_fit 1 _ [] (Fk.nil _ (by decide))⟩
            · exact ⟨h, n0⟩
          · exact ⟨h, Rd.places_fit 1 _ [] (Fk.nil _ (by decide))⟩
    · exact ⟨h, n0⟩
theorem Rd.stmt_fit (s : Rd) : FitS s.stmt.1 := by
  unfold Rd.stmt
  simp only
  split
  · exact ⟨Nat.zero_le _, Rd.places_fit 1 _ [] (Fk.nil _ (by decide))⟩
  · exact Rd.value_fit _ _ (Rd.place_fit _) rfl
theorem Rd.term_fit (s : Rd) : FitT s.term.1 := by
  have z : FitT (term0 s.at_) := ⟨Nat.zero_le _, Fl.nil _, Nat.zero_le _, Nat.zero_le _⟩
  have n1 : ∀ u, (Rd.names 1 u []).1.length ≤ maxF := fun u => by rw [Rd.names_fit]; decide
  have n2 : ∀ u, (Rd.names 2 u []).1.length ≤ maxF := fun u => by rw [Rd.names_fit]; decide
  have p1 : ∀ u, Fl FitP (Rd.places 1 u []).1 := fun u => Rd.places_fit 1 _ [] (Fk.nil _ (by decide))
  unfold Rd.term
  split
  · simp only
    split
    · exact ⟨z.1, Fl.nil _, n1 _, Nat.zero_le _⟩
    · split
      · exact ⟨z.1, p1 _, n2 _, Nat.zero_le _⟩
      · split
        · exact ⟨z.1, p1 _, Nat.zero_le _, (Rd.row_fit (F := fun _ : SArm => True) (fun _ => trivial) rdF _ [] (Fk.nil _ (by decide))).1⟩
        · split
          · exact ⟨Rd.place_fit _, Rd.args_fit _, n1 _, Nat.zero_le _⟩
          · split
            · exact ⟨z.1, p1 _, Nat.zero_le _, Nat.zero_le _⟩
            · exact ⟨z.1, Fl.nil _, Nat.zero_le _, Nat.zero_le _⟩
  · exact z
theorem Rd.stmts_fit : ∀ (k : Nat) (s : Rd) (out : List SStmt), Fk FitS k out → Fl FitS (Rd.stmts k s out).1
  | 0, s, out, h => h.fl
  | k + 1, s, out, h => by
    unfold Rd.stmts
    split
    · exact Rd.stmts_fit k _ _ (h.snoc (Rd.stmt_fit _))
    · exact h.fl
theorem Rd.block_fit (s : Rd) : FitB s.block.1 := ⟨Rd.stmts_fit rdF _ [] (Fk.nil _ (by decide)), Rd.term_fit _⟩
theorem Rd.lets_fit (np : Int) : ∀ (k : Nat) (s : Rd) (out : List SVar), (Rd.lets np k s out).1.length ≤ out.length + k
  | 0, s, out => Nat.le_refl _
  | k + 1, s, out => by
    unfold Rd.lets
    simp only
    split
    · refine Nat.le_trans (Rd.lets_fit np k _ _) ?_
      simp only [List.length_append, List.length_singleton]
      omega
    · show out.length ≤ _
      omega
theorem Rd.blocks_fit : ∀ (k : Nat) (s : Rd) (out : List SBlock), Fk FitB k out → Fl FitB (Rd.blocks k s out).1
  | 0, s, out, h => h.fl
  | k + 1, s, out, h => by
    unfold Rd.blocks
    split
    · exact Rd.blocks_fit k _ _ (h.snoc (Rd.block_fit _))
    · exact h.fl
theorem Rd.function_fit (s : Rd) : FitF s.function.1 := by
  unfold Rd.function Rd.function1
  simp only
  refine ⟨?_, Nat.le_trans (Rd.lets_fit _ rdF _ []) (by decide), Rd.blocks_fit rdF _ [] (Fk.nil _ (by decide))⟩
  show List.length (if _ then _ else _ : List SVar × Rd).1 ≤ maxF
  split
  · exact Nat.zero_le _
  · exact (Rd.row_fit (F := fun _ : SVar => True) (fun _ => trivial) rdF _ [] (Fk.nil _ (by decide))).1
theorem Rd.fields1_fit (least : Nat) (one : Rd → SVar × Rd) : ∀ (k : Nat) (s : Rd) (out : List SVar), (Rd.fields1 least one k s out).1.length ≤ out.length + k
  | 0, s, out => Nat.le_refl _
  | k + 1, s, out => by
    unfold Rd.fields1
    split
    · refine Nat.le_trans (Rd.fields1_fit least one k _ _) ?_
      simp only [List.length_append, List.length_singleton]
      omega
    · show out.length ≤ _
      omega
theorem Rd.structure_fit (s : Rd) : FitR s.structure.1 := Nat.le_trans (Rd.fields1_fit 0 Rd.field rdF _ []) (by decide)
theorem Rd.enum_fit (s : Rd) : FitE s.enum.1 := Nat.le_trans (Rd.fields1_fit 1 Rd.variant rdF _ []) (by decide)
theorem Rd.program_fit : ∀ (k : Nat) (s : Rd) (P : SProg), Fk FitR k P.f0 → Fk FitE k P.f1 → Fk FitF k P.f2 → Fit (Rd.program k s P).1
  | 0, s, P, h0, h1, h2 => ⟨h0.fl, h1.fl, h2.fl⟩
  | k + 1, s, P, h0, h1, h2 => by
    have w0 : Fk FitR k P.f0 := ⟨by have := h0.1; omega, h0.2⟩
    have w1 : Fk FitE k P.f1 := ⟨by have := h1.1; omega, h1.2⟩
    have w2 : Fk FitF k P.f2 := ⟨by have := h2.1; omega, h2.2⟩
    unfold Rd.program
    simp only
    split
    · split
      · exact Rd.program_fit k _ _ (h0.snoc (Rd.structure_fit _)) w1 w2
      · split
        · exact Rd.program_fit k _ _ w0 (h1.snoc (Rd.enum_fit _)) w2
        · split
          · exact Rd.program_fit k _ _ w0 w1 (h2.snoc (Rd.function_fit _))
          · exact Rd.program_fit k _ _ w0 w1 w2
    · exact ⟨h0.fl, h1.fl, h2.fl⟩
theorem fit0 : Fit prog0 := ⟨Fl.nil _, Fl.nil _, Fl.nil _⟩
theorem parse_fit (l : List Tok) (n : Int) : Fit (parseT l n).1 := by
  unfold parseT
  simp only
  split
  · exact fit0
  · split
    · exact fit0
    · exact Rd.program_fit rdF _ prog0 (Fk.nil _ (by decide)) (Fk.nil _ (by decide)) (Fk.nil _ (by decide))
end
section
open Go Go.RowKit Go.Proofs.YtmgkejobolgkmaaGreatDoorW.PrintWords Go.Proofs.YtmgkejobolgkmaaGreatDoorW.PrintLast Go.Proofs.YtmgkejobolgkmaaGreatDoorW.PrintMore
set_option linter.unusedVariables false
set_option linter.unusedSimpArgs false

theorem beq_same {α : Type} [BEq α] [LawfulBEq α] (x : α) : (x == x) = true := beq_self_eq_true x
theorem streq (x : ByteArray) : (x.toList == x.toList) = true := beq_self_eq_true _
/-- two rows' elements are alike, one by one -/
def Rw {α : Type} (R : α → α → Prop) (z : α) (l m : List α) : Prop := m.length = l.length ∧ l.length ≤ maxF ∧ ∀ i : Nat, i < l.length → R (l.getD i z) (m.getD i z)
def RePlace (x y : S50) : Prop := y.f0 = x.f0 ∧ y.f1 = x.f1 ∧ x.f1.length ≤ maxF
def VPlace (W : World) (x : S50) (v : Value) : Prop := ∃ A1 c1, v = .agg #[.string x.f0, .slice A1 x.f1.length c1] ∧ x.f1.length ≤ c1 ∧ Kd.C Kd.string W A1 x.f1.length x.f1
theorem VPlace.bel {W W1 : World} {x : S50} {v : Value} (h : VPlace W x v) (hb : Below W.heap.size W W1) : VPlace W1 x v := by
  obtain ⟨A1, c1, hv, l1, g1⟩ := h
  exact ⟨A1, c1, hv, l1, Kd.C_below g1 hb⟩
def ReStmt (x y : S53) : Prop := y.f1 = x.f1 ∧ RePlace x.f2 y.f2 ∧ y.f3 = x.f3 ∧ y.f4 = x.f4 ∧ y.f5 = x.f5 ∧ Rw RePlace z50 x.f6 y.f6
def VStmt (W : World) (x : S53) (v : Value) : Prop := ∃ A3 c3 A7 c7, v = .agg #[.int .i64 x.f0, .int .i64 x.f1, .string x.f2.f0, .slice A3 x.f2.f1.length c3, .int .i64 x.f3, .string x.f4, .string x.f5, .slice A7 x.f6.length c7] ∧ x.f2.f1.length ≤ c3 ∧ Kd.C Kd.string W A3 x.f2.f1.length x.f2.f1 ∧ x.f6.length ≤ c7 ∧ Kd.C k50 W A7 x.f6.length x.f6
theorem VStmt.bel {W W1 : World} {x : S53} {v : Value} (h : VStmt W x v) (hb : Below W.heap.size W W1) : VStmt W1 x v := by
  obtain ⟨A3, c3, A7, c7, hv, l3, g3, l7, g7⟩ := h
  exact ⟨A3, c3, A7, c7, hv, l3, Kd.C_below g3 hb, l7, Kd.C_below g7 hb⟩
def ReTerm (x y : S57) : Prop := y.f1 = x.f1 ∧ RePlace x.f2 y.f2 ∧ y.f3 = x.f3 ∧ Rw RePlace z50 x.f4 y.f4 ∧ y.f5 = x.f5 ∧ x.f5.length ≤ maxF ∧ y.f6 = x.f6 ∧ x.f6.length ≤ maxF
def VTerm (W : World) (x : S57) (v : Value) : Prop := ∃ A3 c3 A5 c5 A6 c6 A7 c7, v = .agg #[.int .i64 x.f0, .int .i64 x.f1, .string x.f2.f0, .slice A3 x.f2.f1.length c3, .string x.f3, .slice A5 x.f4.length c5, .slice A6 x.f5.length c6, .slice A7 x.f6.length c7] ∧ x.f2.f1.length ≤ c3 ∧ Kd.C Kd.string W A3 x.f2.f1.length x.f2.f1 ∧ x.f4.length ≤ c5 ∧ Kd.C k50 W A5 x.f4.length x.f4 ∧ x.f5.length ≤ c6 ∧ Kd.C Kd.string W A6 x.f5.length x.f5 ∧ x.f6.length ≤ c7 ∧ Kd.C k92 W A7 x.f6.length x.f6
theorem VTerm.bel {W W1 : World} {x : S57} {v : Value} (h : VTerm W x v) (hb : Below W.heap.size W W1) : VTerm W1 x v := by
  obtain ⟨A3, c3, A5, c5, A6, c6, A7, c7, hv, l3, g3, l5, g5, l6, g6, l7, g7⟩ := h
  exact ⟨A3, c3, A5, c5, A6, c6, A7, c7, hv, l3, Kd.C_below g3 hb, l5, Kd.C_below g5 hb, l6, Kd.C_below g6 hb, l7, Kd.C_below g7 hb⟩
def ReBlock (x y : S59) : Prop := y.f1 = x.f1 ∧ Rw ReStmt z53 x.f2 y.f2 ∧ ReTerm x.f3 y.f3
def VBlock (W : World) (x : S59) (v : Value) : Prop := ∃ A2 c2 A6 c6 A8 c8 A9 c9 A10 c10, v = .agg #[.int .i64 x.f0, .string x.f1, .slice A2 x.f2.length c2, .int .i64 x.f3.f0, .int .i64 x.f3.f1, .string x.f3.f2.f0, .slice A6 x.f3.f2.f1.length c6, .string x.f3.f3, .slice A8 x.f3.f4.length c8, .slice A9 x.f3.f5.length c9, .slice A10 x.f3.f6.length c10] ∧ x.f2.length ≤ c2 ∧ Kd.C k53 W A2 x.f2.length x.f2 ∧ x.f3.f2.f1.length ≤ c6 ∧ Kd.C Kd.string W A6 x.f3.f2.f1.length x.f3.f2.f1 ∧ x.f3.f4.length ≤ c8 ∧ Kd.C k50 W A8 x.f3.f4.length x.f3.f4 ∧ x.f3.f5.length ≤ c9 ∧ Kd.C Kd.string W A9 x.f3.f5.length x.f3.f5 ∧ x.f3.f6.length ≤ c10 ∧ Kd.C k92 W A10 x.f3.f6.length x.f3.f6
theorem VBlock.bel {W W1 : World} {x : S59} {v : Value} (h : VBlock W x v) (hb : Below W.heap.size W W1) : VBlock W1 x v := by
  obtain ⟨A2, c2, A6, c6, A8, c8, A9, c9, A10, c10, hv, l2, g2, l6, g6, l8, g8, l9, g9, l10, g10⟩ := h
  exact ⟨A2, c2, A6, c6, A8, c8, A9, c9, A10, c10, hv, l2, Kd.C_below g2 hb, l6, Kd.C_below g6 hb, l8, Kd.C_below g8 hb, l9, Kd.C_below g9 hb, l10, Kd.C_below g10 hb⟩
def ReFunc (x y : S63) : Prop := y.f1 = x.f1 ∧ y.f2 = x.f2 ∧ x.f2.length ≤ maxF ∧ y.f3 = x.f3 ∧ x.f3.length ≤ maxF ∧ y.f4 = x.f4 ∧ Rw ReBlock z59 x.f5 y.f5
def VFunc (W : World) (x : S63) (v : Value) : Prop := ∃ A2 c2 A3 c3 A5 c5, v = .agg #[.int .i64 x.f0, .string x.f1, .slice A2 x.f2.length c2, .slice A3 x.f3.length c3, .string x.f4, .slice A5 x.f5.length c5] ∧ x.f2.length ≤ c2 ∧ Kd.C k99 W A2 x.f2.length x.f2 ∧ x.f3.length ≤ c3 ∧ Kd.C k99 W A3 x.f3.length x.f3 ∧ x.f5.length ≤ c5 ∧ Kd.C k59 W A5 x.f5.length x.f5
theorem VFunc.bel {W W1 : World} {x : S63} {v : Value} (h : VFunc W x v) (hb : Below W.heap.size W W1) : VFunc W1 x v := by
  obtain ⟨A2, c2, A3, c3, A5, c5, hv, l2, g2, l3, g3, l5, g5⟩ := h
  exact ⟨A2, c2, A3, c3, A5, c5, hv, l2, Kd.C_below g2 hb, l3, Kd.C_below g3 hb, l5, Kd.C_below g5 hb⟩
def ReStruct (x y : S77) : Prop := y.f1 = x.f1 ∧ y.f2 = x.f2 ∧ y.f3 = x.f3 ∧ y.f4 = x.f4 ∧ x.f4.length ≤ maxF
def VStruct (W : World) (x : S77) (v : Value) : Prop := ∃ A4 c4, v = .agg #[.int .i64 x.f0, .string x.f1, .bool x.f2, .bool x.f3, .slice A4 x.f4.length c4] ∧ x.f4.length ≤ c4 ∧ Kd.C k99 W A4 x.f4.length x.f4
theorem VStruct.bel {W W1 : World} {x : S77} {v : Value} (h : VStruct W x v) (hb : Below W.heap.size W W1) : VStruct W1 x v := by
  obtain ⟨A4, c4, hv, l4, g4⟩ := h
  exact ⟨A4, c4, hv, l4, Kd.C_below g4 hb⟩
def ReEnum (x y : S80) : Prop := y.f1 = x.f1 ∧ y.f2 = x.f2 ∧ x.f2.length ≤ maxF
def VEnum (W : World) (x : S80) (v : Value) : Prop := ∃ A2 c2, v = .agg #[.int .i64 x.f0, .string x.f1, .slice A2 x.f2.length c2] ∧ x.f2.length ≤ c2 ∧ Kd.C k99 W A2 x.f2.length x.f2
theorem VEnum.bel {W W1 : World} {x : S80} {v : Value} (h : VEnum W x v) (hb : Below W.heap.size W W1) : VEnum W1 x v := by
  obtain ⟨A2, c2, hv, l2, g2⟩ := h
  exact ⟨A2, c2, hv, l2, Kd.C_below g2 hb⟩
def ReProg (x y : S27) : Prop := Rw ReStruct z77 x.f0 y.f0 ∧ Rw ReEnum z80 x.f1 y.f1 ∧ Rw ReFunc z63 x.f2 y.f2
def VProg (W : World) (x : S27) (v : Value) : Prop := ∃ A0 c0 A1 c1 A2 c2, v = .agg #[.slice A0 x.f0.length c0, .slice A1 x.f1.length c1, .slice A2 x.f2.length c2] ∧ x.f0.length ≤ c0 ∧ Kd.C k77 W A0 x.f0.length x.f0 ∧ x.f1.length ≤ c1 ∧ Kd.C k80 W A1 x.f1.length x.f1 ∧ x.f2.length ≤ c2 ∧ Kd.C k63 W A2 x.f2.length x.f2
theorem VProg.bel {W W1 : World} {x : S27} {v : Value} (h : VProg W x v) (hb : Below W.heap.size W W1) : VProg W1 x v := by
  obtain ⟨A0, c0, A1, c1, A2, c2, hv, l0, g0, l1, g1, l2, g2⟩ := h
  exact ⟨A0, c0, A1, c1, A2, c2, hv, l0, Kd.C_below g0 hb, l1, Kd.C_below g1 hb, l2, Kd.C_below g2 hb⟩
theorem blk_two (w : World) (cs cs2 : Array Value) (t t2 : Nat) : Blk ((w.alloc (.cells cs t)).alloc (.cells cs2 t2)) (w.heap.size + 1) cs2 t2 := by
  have h := Blk.new (w.alloc (.cells cs t)) cs2 t2
  rw [show (w.alloc (.cells cs t)).heap.size = w.heap.size + 1 by simp] at h
  exact h
attribute [local go_sem] beq_same streq
set_option maxHeartbeats 8000000 in
set_option maxRecDepth 100000 in
theorem eqr_string (n : Nat) (A B : Option Addr) (c d : Nat) (l : List ByteArray) (hn : n ≤ maxF) (w : World) (hA : Kd.C Kd.string w A n l) (hB : Kd.C Kd.string w B n l) :
    Calls Tryz.prog 120 #[.slice A n c, .slice B n d] w fun e w' => e = .returned (.bool true) ∧ Below w.heap.size w w' := by
  have HA := Lib.hid hA
  have HB := Lib.hid hB
  have HN := Lib.hid hn
  clear hA hB hn
  have n0 : ((n : Int) != (n : Int)) = false := by simp
  go_enter Tryz.func120, Tryz.ntmps120
  go_wp2_with fail
  go_loopg [13] n (fun kq v8 w' => ∃ x : Nat, v8 = .int .i64 (x : Int) ∧ Aside0 (x + kq = n) ∧ Aside0 (Below w.heap.size w w'))
  case atStart => exact ⟨0, rfl, ⟨by omega⟩, ⟨Below.refl _ _⟩⟩
  case round =>
    obtain ⟨x, rfl, HX, HW⟩ := hrel
    cases gk with
    | zero =>
      have cx : decide (x < n) = false := decide_eq_false (by have := HX.out; omega)
      have cx' : decide ((x : Int) < (n : Int)) = false := decide_eq_false (by have := HX.out; omega)
      go_wp2_with fail
      go_ret
      exact ⟨rfl, HW.out⟩
    | succ kk =>
      have hxl : x < n := by have := HX.out; omega
      have cx : decide (x < n) = true := decide_eq_true hxl
      have cx' : decide ((x : Int) < (n : Int)) = true := decide_eq_true (by omega)
      have wx : IntKind.i64.wrap ((x : Int) + 1) = ((x + 1 : Nat) : Int) := by rw [i64_w]; unfold wrap64; have := HN.out; unfold maxF at this; omega
      obtain ⟨ad, ea, x0⟩ := Kd.at_string (Kd.C_below HA.out HW.out) (x : Int) (by omega) (by omega)
      obtain ⟨be, eb, y0⟩ := Kd.at_string (Kd.C_below HB.out HW.out) (x : Int) (by omega) (by omega)
      cases ea
      cases eb
      simp only [Int.toNat_natCast] at x0 y0
      generalize rdOf ByteArray.empty l (x : Int) = q at *
      have p1 := eq_true hxl
      have p2 : (0 ≤ (x : Int)) = True := eq_true (by omega)
      have p3 : ((x : Int) < (n : Int)) = True := eq_true (by omega)
      go_wp2_with fail
      go_quiet (fail)
      go_wp2_with fail
      go_roundg kk
      case measure => omega
      case rel => exact ⟨x + 1, by simp [wx], ⟨by have := HX.out; omega⟩, ⟨pw_below_drewN HW.out nq⟩⟩
theorem ceqVar (d : Nat) (w : World) (x0 x1 : ByteArray) :
    (Op.equalIn (d + 2) 99 (.agg #[.string x0, .string x1]) (.agg #[.string x0, .string x1])).run Tryz.prog w = .ok true w := by
  have h : (Op.equalIn (d + 2) 99 (.agg #[.string x0, .string x1]) (.agg #[.string x0, .string x1])).run Tryz.prog w = .ok ((x0.toList == x0.toList) && (x1.toList == x1.toList)) w := by
    refine eqA_of Tryz.underlying99 (by kernel_rfl) ?_
    refine eqf_cons (by rfl) (by go_simp; rfl) (by go_simp; rfl) (by go_simp) ?_
    exact eqf_last (by rfl) (by go_simp; rfl) (by go_simp; rfl) (by go_simp)
  rw [h]
  simp only [streq, Bool.and_true]
attribute [local go_sem high] ceqVar
set_option maxHeartbeats 8000000 in
set_option maxRecDepth 100000 in
theorem eqr_Var (n : Nat) (A B : Option Addr) (c d : Nat) (l : List S99) (hn : n ≤ maxF) (w : World) (hA : Kd.C k99 w A n l) (hB : Kd.C k99 w B n l) :
    Calls Tryz.prog 37 #[.slice A n c, .slice B n d] w fun e w' => e = .returned (.bool true) ∧ Below w.heap.size w w' := by
  have HA := Lib.hid hA
  have HB := Lib.hid hB
  have HN := Lib.hid hn
  clear hA hB hn
  have n0 : ((n : Int) != (n : Int)) = false := by simp
  go_enter Tryz.func37, Tryz.ntmps37
  go_wp2_with fail
  go_loopg [13] n (fun kq v8 w' => ∃ x : Nat, v8 = .int .i64 (x : Int) ∧ Aside0 (x + kq = n) ∧ Aside0 (Below w.heap.size w w'))
  case atStart => exact ⟨0, rfl, ⟨by omega⟩, ⟨Below.refl _ _⟩⟩
  case round =>
    obtain ⟨x, rfl, HX, HW⟩ := hrel
    cases gk with
    | zero =>
      have cx : decide (x < n) = false := decide_eq_false (by have := HX.out; omega)
      have cx' : decide ((x : Int) < (n : Int)) = false := decide_eq_false (by have := HX.out; omega)
      go_wp2_with fail
      go_ret
      exact ⟨rfl, HW.out⟩
    | succ kk =>
      have hxl : x < n := by have := HX.out; omega
      have cx : decide (x < n) = true := decide_eq_true hxl
      have cx' : decide ((x : Int) < (n : Int)) = true := decide_eq_true (by omega)
      have wx : IntKind.i64.wrap ((x : Int) + 1) = ((x + 1 : Nat) : Int) := by rw [i64_w]; unfold wrap64; have := HN.out; unfold maxF at this; omega
      obtain ⟨ad, ea, x0, x1⟩ := at_T99 (Kd.C_below HA.out HW.out) (x : Int) (by omega) (by omega)
      obtain ⟨be, eb, y0, y1⟩ := at_T99 (Kd.C_below HB.out HW.out) (x : Int) (by omega) (by omega)
      cases ea
      cases eb
      simp only [Int.toNat_natCast] at x0 y0 x1 y1
      generalize rd_T99 l (x : Int) = q at *
      have p1 := eq_true hxl
      have p2 : (0 ≤ (x : Int)) = True := eq_true (by omega)
      have p3 : ((x : Int) < (n : Int)) = True := eq_true (by omega)
      go_wp2_with fail
      go_quiet (fail)
      go_wp2_with fail
      go_roundg kk
      case measure => omega
      case rel => exact ⟨x + 1, by simp [wx], ⟨by have := HX.out; omega⟩, ⟨pw_below_drewN HW.out nq⟩⟩
theorem ceqArm (d : Nat) (w : World) (x0 x1 x2 : ByteArray) :
    (Op.equalIn (d + 2) 92 (.agg #[.string x0, .string x1, .string x2]) (.agg #[.string x0, .string x1, .string x2])).run Tryz.prog w = .ok true w := by
  have h : (Op.equalIn (d + 2) 92 (.agg #[.string x0, .string x1, .string x2]) (.agg #[.string x0, .string x1, .string x2])).run Tryz.prog w = .ok ((x0.toList == x0.toList) && ((x1.toList == x1.toList) && (x2.toList == x2.toList))) w := by
    refine eqA_of Tryz.underlying92 (by kernel_rfl) ?_
    refine eqf_cons (by rfl) (by go_simp; rfl) (by go_simp; rfl) (by go_simp) ?_
    refine eqf_cons (by rfl) (by go_simp; rfl) (by go_simp; rfl) (by go_simp) ?_
    exact eqf_last (by rfl) (by go_simp; rfl) (by go_simp; rfl) (by go_simp)
  rw [h]
  simp only [streq, Bool.and_true]
attribute [local go_sem high] ceqArm
set_option maxHeartbeats 8000000 in
set_option maxRecDepth 100000 in
theorem eqr_Arm (n : Nat) (A B : Option Addr) (c d : Nat) (l : List S92) (hn : n ≤ maxF) (w : World) (hA : Kd.C k92 w A n l) (hB : Kd.C k92 w B n l) :
    Calls Tryz.prog 121 #[.slice A n c, .slice B n d] w fun e w' => e = .returned (.bool true) ∧ Below w.heap.size w w' := by
  have HA := Lib.hid hA
  have HB := Lib.hid hB
  have HN := Lib.hid hn
  clear hA hB hn
  have n0 : ((n : Int) != (n : Int)) = false := by simp
  go_enter Tryz.func121, Tryz.ntmps121
  go_wp2_with fail
  go_loopg [13] n (fun kq v8 w' => ∃ x : Nat, v8 = .int .i64 (x : Int) ∧ Aside0 (x + kq = n) ∧ Aside0 (Below w.heap.size w w'))
  case atStart => exact ⟨0, rfl, ⟨by omega⟩, ⟨Below.refl _ _⟩⟩
  case round =>
    obtain ⟨x, rfl, HX, HW⟩ := hrel
    cases gk with
    | zero =>
      have cx : decide (x < n) = false := decide_eq_false (by have := HX.out; omega)
      have cx' : decide ((x : Int) < (n : Int)) = false := decide_eq_false (by have := HX.out; omega)
      go_wp2_with fail
      go_ret
      exact ⟨rfl, HW.out⟩
    | succ kk =>
      have hxl : x < n := by have := HX.out; omega
      have cx : decide (x < n) = true := decide_eq_true hxl
      have cx' : decide ((x : Int) < (n : Int)) = true := decide_eq_true (by omega)
      have wx : IntKind.i64.wrap ((x : Int) + 1) = ((x + 1 : Nat) : Int) := by rw [i64_w]; unfold wrap64; have := HN.out; unfold maxF at this; omega
      obtain ⟨ad, ea, x0, x1, x2⟩ := at_T92 (Kd.C_below HA.out HW.out) (x : Int) (by omega) (by omega)
      obtain ⟨be, eb, y0, y1, y2⟩ := at_T92 (Kd.C_below HB.out HW.out) (x : Int) (by omega) (by omega)
      cases ea
      cases eb
      simp only [Int.toNat_natCast] at x0 y0 x1 y1 x2 y2
      generalize rd_T92 l (x : Int) = q at *
      have p1 := eq_true hxl
      have p2 : (0 ≤ (x : Int)) = True := eq_true (by omega)
      have p3 : ((x : Int) < (n : Int)) = True := eq_true (by omega)
      go_wp2_with fail
      go_quiet (fail)
      go_wp2_with fail
      go_roundg kk
      case measure => omega
      case rel => exact ⟨x + 1, by simp [wx], ⟨by have := HX.out; omega⟩, ⟨pw_below_drewN HW.out nq⟩⟩
set_option maxHeartbeats 8000000 in
set_option maxRecDepth 100000 in
theorem same_Place (x y : S50) (w : World) (vx vy : Value) (hx : VPlace w x vx) (hy : VPlace w y vy) (hr : RePlace x y) : Calls Tryz.prog 118 #[vx, vy] w fun e w' => e = .returned (.bool true) ∧ Below w.heap.size w w' := by
  obtain ⟨A1, c1, rfl, l1, g1⟩ := hx
  obtain ⟨B1, d1, rfl, m1, h1⟩ := hy
  obtain ⟨e_f0, e_f1, b_f1⟩ := hr
  simp only [e_f0, e_f1] at h1 ⊢
  have C0 := Lib.hid (fun V (hV : Below w.heap.size w V) => eqr_string x.f1.length A1 B1 c1 d1 x.f1 b_f1 V (Kd.C_below g1 hV) (Kd.C_below h1 hV))
  clear l1 g1 m1 h1 b_f1 e_f0 e_f1
  go_enter Tryz.func118, Tryz.ntmps118
  go_upto_region 1 with fail
  refine code_at (fun V => Blk V w.heap.size #[.string x.f0, .slice A1 x.f1.length c1] 50 ∧ Blk V (w.heap.size + 1) #[.string x.f0, .slice B1 x.f1.length d1] 50 ∧ Below w.heap.size w V) ⟨(Blk.new w _ _).alloc _, blk_two w _ _ _ _, below_alloc (below_alloc (Below.refl _ _) _) _⟩ ?_
  rintro W0 ⟨hx, hy, hb⟩
  obtain ⟨⟨x0, x1⟩, -⟩ := hx.cells2
  obtain ⟨⟨y0, y1⟩, -⟩ := hy.cells2
  have HX0 := Lib.hid hx
  have HY0 := Lib.hid hy
  have HB0 := Lib.hid hb
  clear hx hy hb
  go_wp2_with fail
  refine (C0.out _ HB0.out).mono ?_
  rintro e W1 ⟨rfl, hb⟩
  have HX1 := Lib.hid (HX0.out.below hb)
  have HY1 := Lib.hid (HY0.out.below hb)
  have HB1 := Lib.hid (below_step HB0.out hb)
  clear hb x0 x1 y0 y1
  go_wp2_with fail
  go_ret
  exact ⟨rfl, HB1.out⟩
set_option maxHeartbeats 8000000 in
set_option maxRecDepth 100000 in
theorem eqf_Place (n : Nat) (A B : Option Addr) (c d : Nat) (l m : List S50) (hn : n ≤ maxF) (hr : ∀ i : Nat, i < n → RePlace (l.getD i z50) (m.getD i z50)) (w : World) (hA : Kd.C k50 w A n l) (hB : Kd.C k50 w B n m) :
    Calls Tryz.prog 119 #[.slice A n c, .slice B n d, .func (.func 118) #[] #[]] w fun e w' => e = .returned (.bool true) ∧ Below w.heap.size w w' := by
  have HA := Lib.hid hA
  have HB := Lib.hid hB
  have HN := Lib.hid hn
  have HR := Lib.hid hr
  clear hA hB hn hr
  have n0 : ((n : Int) != (n : Int)) = false := by simp
  go_enter Tryz.func119, Tryz.ntmps119
  go_wp2_with fail
  go_loopg [17] n (fun kq v8 w' => ∃ x : Nat, v8 = .int .i64 (x : Int) ∧ Aside0 (x + kq = n) ∧ Aside0 (Below w.heap.size w w'))
  case atStart => exact ⟨0, rfl, ⟨by omega⟩, ⟨Below.refl _ _⟩⟩
  case round =>
    obtain ⟨x, rfl, HX, HW⟩ := hrel
    cases gk with
    | zero =>
      have cx : decide (x < n) = false := decide_eq_false (by have := HX.out; omega)
      have cx' : decide ((x : Int) < (n : Int)) = false := decide_eq_false (by have := HX.out; omega)
      go_wp2_with fail
      go_ret
      exact ⟨rfl, HW.out⟩
    | succ kk =>
      have hxl : x < n := by have := HX.out; omega
      have cx : decide (x < n) = true := decide_eq_true hxl
      have cx' : decide ((x : Int) < (n : Int)) = true := decide_eq_true (by omega)
      have wx : IntKind.i64.wrap ((x : Int) + 1) = ((x + 1 : Nat) : Int) := by rw [i64_w]; unfold wrap64; have := HN.out; unfold maxF at this; omega
      have p1 := eq_true hxl
      have p2 : (0 ≤ (x : Int)) = True := eq_true (by omega)
      have p3 : ((x : Int) < (n : Int)) = True := eq_true (by omega)
      have HRel : Hid (RePlace (rd_T50 l (x : Int)) (rd_T50 m (x : Int))) := Lib.hid (HR.out x hxl)
      obtain ⟨ad, A1, c1, ea, x0, x1, l1, g1⟩ := at_T50 (Kd.C_below HA.out HW.out) (x : Int) (by omega) (by omega)
      have HBr := Lib.hid (fun V (hV : Below w.heap.size w V) => at_T50 (Kd.C_below HB.out hV) (x : Int) (by omega) (by omega))
      cases ea
      simp only [Int.toNat_natCast] at x0 x1
      generalize rd_T50 l (x : Int) = q at *
      generalize rd_T50 m (x : Int) = r at *
      have HQ : Hid (VPlace wr q (.agg #[.string q.f0, .slice A1 q.f1.length c1])) := Lib.hid ⟨A1, c1, rfl, l1, g1⟩
      clear hxl l1 g1
      go_upto_region 6 with fail
      refine code_at (fun V => Blk V wr.heap.size #[.string q.f0, .slice A1 q.f1.length c1] 50 ∧ Below wr.heap.size wr V) ⟨Blk.new wr _ _, below_alloc (Below.refl _ _) _⟩ ?_
      rintro V ⟨hx, hb⟩
      have HX1 := Lib.hid hx
      have HW1 := Lib.hid hb
      clear hx hb x0 x1
      obtain ⟨be, B1, d1, eb, y0, y1, m1, h1⟩ := HBr.out V (below_step HW.out HW1.out)
      cases eb
      simp only [Int.toNat_natCast] at y0 y1
      have HZ : Hid (VPlace V r (.agg #[.string r.f0, .slice B1 r.f1.length d1])) := Lib.hid ⟨B1, d1, rfl, m1, h1⟩
      clear m1 h1 HBr
      go_upto_region 7 with fail
      refine code_at (fun U => Blk U wr.heap.size #[.string q.f0, .slice A1 q.f1.length c1] 50 ∧ Blk U V.heap.size #[.string r.f0, .slice B1 r.f1.length d1] 50 ∧ Below V.heap.size V U) ⟨HX1.out.alloc _, Blk.new V _ _, below_alloc (Below.refl _ _) _⟩ ?_
      rintro U ⟨hx, hy, hb⟩
      have HW2 := Lib.hid (below_step HW1.out hb)
      have HS := Lib.hid (same_Place q r U _ _ (HQ.out.bel HW2.out) (HZ.out.bel hb) HRel.out)
      obtain ⟨⟨x0, x1⟩, -⟩ := hx.cells2
      obtain ⟨⟨z0, z1⟩, -⟩ := hy.cells2
      clear hx hy hb HX1 HQ HZ HRel y0 y1
      go_wp2_with fail
      refine HS.out.mono ?_
      rintro e w1 ⟨rfl, hb1⟩
      have HB1 := Aside0.mk (below_step HW.out (below_step HW2.out hb1))
      clear hb1
      go_wp2_with fail
      go_roundg kk
      case measure => omega
      case rel => exact ⟨x + 1, by simp [wx], ⟨by have := HX.out; omega⟩, ⟨HB1.out⟩⟩
set_option maxHeartbeats 8000000 in
set_option maxRecDepth 100000 in
theorem same_Stmt (x y : S53) (w : World) (vx vy : Value) (hx : VStmt w x vx) (hy : VStmt w y vy) (hr : ReStmt x y) : Calls Tryz.prog 80 #[vx, vy] w fun e w' => e = .returned (.bool true) ∧ Below w.heap.size w w' := by
  obtain ⟨A3, c3, A7, c7, rfl, l3, g3, l7, g7⟩ := hx
  obtain ⟨B3, d3, B7, d7, rfl, m3, h3, m7, h7⟩ := hy
  obtain ⟨e_f1, r_f2, e_f3, e_f4, e_f5, ⟨n_f6, b_f6, r_f6⟩⟩ := hr
  simp only [e_f1, e_f3, e_f4, e_f5, n_f6] at h7 ⊢
  have X0 : VPlace w x.f2 (.agg #[.string x.f2.f0, .slice A3 x.f2.f1.length c3]) := ⟨A3, c3, rfl, l3, g3⟩
  have Y0 : VPlace w y.f2 (.agg #[.string y.f2.f0, .slice B3 y.f2.f1.length d3]) := ⟨B3, d3, rfl, m3, h3⟩
  have C0 := Lib.hid (fun V (hV : Below w.heap.size w V) => same_Place x.f2 y.f2 V _ _ (X0.bel hV) (Y0.bel hV) r_f2)
  clear X0 Y0
  have C1 := Lib.hid (fun V (hV : Below w.heap.size w V) => eqf_Place x.f6.length A7 B7 c7 d7 x.f6 y.f6 b_f6 r_f6 V (Kd.C_below g7 hV) (Kd.C_below h7 hV))
  clear l3 g3 l7 g7 m3 h3 m7 h7 r_f2 b_f6 r_f6 e_f1 e_f3 e_f4 e_f5 n_f6
  go_enter Tryz.func80, Tryz.ntmps80
  go_upto_region 1 with fail
  refine code_at (fun V => Blk V w.heap.size #[.int .i64 x.f0, .int .i64 x.f1, .string x.f2.f0, .slice A3 x.f2.f1.length c3, .int .i64 x.f3, .string x.f4, .string x.f5, .slice A7 x.f6.length c7] 53 ∧ Blk V (w.heap.size + 1) #[.int .i64 y.f0, .int .i64 x.f1, .string y.f2.f0, .slice B3 y.f2.f1.length d3, .int .i64 x.f3, .string x.f4, .string x.f5, .slice B7 x.f6.length d7] 53 ∧ Below w.heap.size w V) ⟨(Blk.new w _ _).alloc _, blk_two w _ _ _ _, below_alloc (below_alloc (Below.refl _ _) _) _⟩ ?_
  rintro W0 ⟨hx, hy, hb⟩
  obtain ⟨⟨x0, x1, x2, x3, x4, x5, x6, x7⟩, -⟩ := hx.cells8
  obtain ⟨⟨y0, y1, y2, y3, y4, y5, y6, y7⟩, -⟩ := hy.cells8
  have HX0 := Lib.hid hx
  have HY0 := Lib.hid hy
  have HB0 := Lib.hid hb
  clear hx hy hb
  go_wp2_with fail
  refine (C0.out _ HB0.out).mono ?_
  rintro e W1 ⟨rfl, hb⟩
  have HX1 := Lib.hid (HX0.out.below hb)
  have HY1 := Lib.hid (HY0.out.below hb)
  have HB1 := Lib.hid (below_step HB0.out hb)
  clear hb x0 x1 x2 x3 x4 x5 x6 x7 y0 y1 y2 y3 y4 y5 y6 y7
  obtain ⟨⟨x0, x1, x2, x3, x4, x5, x6, x7⟩, -⟩ := HX1.out.cells8
  obtain ⟨⟨y0, y1, y2, y3, y4, y5, y6, y7⟩, -⟩ := HY1.out.cells8
  go_wp2_with fail
  refine (C1.out _ HB1.out).mono ?_
  rintro e W2 ⟨rfl, hb⟩
  have HX2 := Lib.hid (HX1.out.below hb)
  have HY2 := Lib.hid (HY1.out.below hb)
  have HB2 := Lib.hid (below_step HB1.out hb)
  clear hb x0 x1 x2 x3 x4 x5 x6 x7 y0 y1 y2 y3 y4 y5 y6 y7
  go_wp2_with fail
  go_ret
  exact ⟨rfl, HB2.out⟩
set_option maxHeartbeats 8000000 in
set_option maxRecDepth 100000 in
theorem eqf_Stmt (n : Nat) (A B : Option Addr) (c d : Nat) (l m : List S53) (hn : n ≤ maxF) (hr : ∀ i : Nat, i < n → ReStmt (l.getD i z53) (m.getD i z53)) (w : World) (hA : Kd.C k53 w A n l) (hB : Kd.C k53 w B n m) :
    Calls Tryz.prog 79 #[.slice A n c, .slice B n d, .func (.func 80) #[] #[]] w fun e w' => e = .returned (.bool true) ∧ Below w.heap.size w w' := by
  have HA := Lib.hid hA
  have HB := Lib.hid hB
  have HN := Lib.hid hn
  have HR := Lib.hid hr
  clear hA hB hn hr
  have n0 : ((n : Int) != (n : Int)) = false := by simp
  go_enter Tryz.func79, Tryz.ntmps79
  go_wp2_with fail
  go_loopg [17] n (fun kq v8 w' => ∃ x : Nat, v8 = .int .i64 (x : Int) ∧ Aside0 (x + kq = n) ∧ Aside0 (Below w.heap.size w w'))
  case atStart => exact ⟨0, rfl, ⟨by omega⟩, ⟨Below.refl _ _⟩⟩
  case round =>
    obtain ⟨x, rfl, HX, HW⟩ := hrel
    cases gk with
    | zero =>
      have cx : decide (x < n) = false := decide_eq_false (by have := HX.out; omega)
      have cx' : decide ((x : Int) < (n : Int)) = false := decide_eq_false (by have := HX.out; omega)
      go_wp2_with fail
      go_ret
      exact ⟨rfl, HW.out⟩
    | succ kk =>
      have hxl : x < n := by have := HX.out; omega
      have cx : decide (x < n) = true := decide_eq_true hxl
      have cx' : decide ((x : Int) < (n : Int)) = true := decide_eq_true (by omega)
      have wx : IntKind.i64.wrap ((x : Int) + 1) = ((x + 1 : Nat) : Int) := by rw [i64_w]; unfold wrap64; have := HN.out; unfold maxF at this; omega
      have p1 := eq_true hxl
      have p2 : (0 ≤ (x : Int)) = True := eq_true (by omega)
      have p3 : ((x : Int) < (n : Int)) = True := eq_true (by omega)
      have HRel : Hid (ReStmt (rd_T53 l (x : Int)) (rd_T53 m (x : Int))) := Lib.hid (HR.out x hxl)
      obtain ⟨ad, A3, c3, A7, c7, ea, x0, x1, x2, x3, x4, x5, x6, x7, l3, g3, l7, g7⟩ := at_T53 (Kd.C_below HA.out HW.out) (x : Int) (by omega) (by omega)
      have HBr := Lib.hid (fun V (hV : Below w.heap.size w V) => at_T53 (Kd.C_below HB.out hV) (x : Int) (by omega) (by omega))
      cases ea
      simp only [Int.toNat_natCast] at x0 x1 x2 x3 x4 x5 x6 x7
      generalize rd_T53 l (x : Int) = q at *
      generalize rd_T53 m (x : Int) = r at *
      have HQ : Hid (VStmt wr q (.agg #[.int .i64 q.f0, .int .i64 q.f1, .string q.f2.f0, .slice A3 q.f2.f1.length c3, .int .i64 q.f3, .string q.f4, .string q.f5, .slice A7 q.f6.length c7])) := Lib.hid ⟨A3, c3, A7, c7, rfl, l3, g3, l7, g7⟩
      clear hxl l3 g3 l7 g7
      go_upto_region 6 with fail
      refine code_at (fun V => Blk V wr.heap.size #[.int .i64 q.f0, .int .i64 q.f1, .string q.f2.f0, .slice A3 q.f2.f1.length c3, .int .i64 q.f3, .string q.f4, .string q.f5, .slice A7 q.f6.length c7] 53 ∧ Below wr.heap.size wr V) ⟨Blk.new wr _ _, below_alloc (Below.refl _ _) _⟩ ?_
      rintro V ⟨hx, hb⟩
      have HX1 := Lib.hid hx
      have HW1 := Lib.hid hb
      clear hx hb x0 x1 x2 x3 x4 x5 x6 x7
      obtain ⟨be, B3, d3, B7, d7, eb, y0, y1, y2, y3, y4, y5, y6, y7, m3, h3, m7, h7⟩ := HBr.out V (below_step HW.out HW1.out)
      cases eb
      simp only [Int.toNat_natCast] at y0 y1 y2 y3 y4 y5 y6 y7
      have HZ : Hid (VStmt V r (.agg #[.int .i64 r.f0, .int .i64 r.f1, .string r.f2.f0, .slice B3 r.f2.f1.length d3, .int .i64 r.f3, .string r.f4, .string r.f5, .slice B7 r.f6.length d7])) := Lib.hid ⟨B3, d3, B7, d7, rfl, m3, h3, m7, h7⟩
      clear m3 h3 m7 h7 HBr
      go_upto_region 7 with fail
      refine code_at (fun U => Blk U wr.heap.size #[.int .i64 q.f0, .int .i64 q.f1, .string q.f2.f0, .slice A3 q.f2.f1.length c3, .int .i64 q.f3, .string q.f4, .string q.f5, .slice A7 q.f6.length c7] 53 ∧ Blk U V.heap.size #[.int .i64 r.f0, .int .i64 r.f1, .string r.f2.f0, .slice B3 r.f2.f1.length d3, .int .i64 r.f3, .string r.f4, .string r.f5, .slice B7 r.f6.length d7] 53 ∧ Below V.heap.size V U) ⟨HX1.out.alloc _, Blk.new V _ _, below_alloc (Below.refl _ _) _⟩ ?_
      rintro U ⟨hx, hy, hb⟩
      have HW2 := Lib.hid (below_step HW1.out hb)
      have HS := Lib.hid (same_Stmt q r U _ _ (HQ.out.bel HW2.out) (HZ.out.bel hb) HRel.out)
      obtain ⟨⟨x0, x1, x2, x3, x4, x5, x6, x7⟩, -⟩ := hx.cells8
      obtain ⟨⟨z0, z1, z2, z3, z4, z5, z6, z7⟩, -⟩ := hy.cells8
      clear hx hy hb HX1 HQ HZ HRel y0 y1 y2 y3 y4 y5 y6 y7
      go_wp2_with fail
      refine HS.out.mono ?_
      rintro e w1 ⟨rfl, hb1⟩
      have HB1 := Aside0.mk (below_step HW.out (below_step HW2.out hb1))
      clear hb1
      go_wp2_with fail
      go_roundg kk
      case measure => omega
      case rel => exact ⟨x + 1, by simp [wx], ⟨by have := HX.out; omega⟩, ⟨HB1.out⟩⟩
set_option maxHeartbeats 8000000 in
set_option maxRecDepth 100000 in
theorem same_Term (x y : S57) (w : World) (vx vy : Value) (hx : VTerm w x vx) (hy : VTerm w y vy) (hr : ReTerm x y) : Calls Tryz.prog 81 #[vx, vy] w fun e w' => e = .returned (.bool true) ∧ Below w.heap.size w w' := by
  obtain ⟨A3, c3, A5, c5, A6, c6, A7, c7, rfl, l3, g3, l5, g5, l6, g6, l7, g7⟩ := hx
  obtain ⟨B3, d3, B5, d5, B6, d6, B7, d7, rfl, m3, h3, m5, h5, m6, h6, m7, h7⟩ := hy
  obtain ⟨e_f1, r_f2, e_f3, ⟨n_f4, b_f4, r_f4⟩, e_f5, b_f5, e_f6, b_f6⟩ := hr
  simp only [e_f1, e_f3, n_f4, e_f5, e_f6] at h5 h6 h7 ⊢
  have X0 : VPlace w x.f2 (.agg #[.string x.f2.f0, .slice A3 x.f2.f1.length c3]) := ⟨A3, c3, rfl, l3, g3⟩
  have Y0 : VPlace w y.f2 (.agg #[.string y.f2.f0, .slice B3 y.f2.f1.length d3]) := ⟨B3, d3, rfl, m3, h3⟩
  have C0 := Lib.hid (fun V (hV : Below w.heap.size w V) => same_Place x.f2 y.f2 V _ _ (X0.bel hV) (Y0.bel hV) r_f2)
  clear X0 Y0
  have C1 := Lib.hid (fun V (hV : Below w.heap.size w V) => eqf_Place x.f4.length A5 B5 c5 d5 x.f4 y.f4 b_f4 r_f4 V (Kd.C_below g5 hV) (Kd.C_below h5 hV))
  have C2 := Lib.hid (fun V (hV : Below w.heap.size w V) => eqr_string x.f5.length A6 B6 c6 d6 x.f5 b_f5 V (Kd.C_below g6 hV) (Kd.C_below h6 hV))
  have C3 := Lib.hid (fun V (hV : Below w.heap.size w V) => eqr_Arm x.f6.length A7 B7 c7 d7 x.f6 b_f6 V (Kd.C_below g7 hV) (Kd.C_below h7 hV))
  clear l3 g3 l5 g5 l6 g6 l7 g7 m3 h3 m5 h5 m6 h6 m7 h7 r_f2 b_f4 r_f4 b_f5 b_f6 e_f1 e_f3 n_f4 e_f5 e_f6
  go_enter Tryz.func81, Tryz.ntmps81
  go_upto_region 1 with fail
  refine code_at (fun V => Blk V w.heap.size #[.int .i64 x.f0, .int .i64 x.f1, .string x.f2.f0, .slice A3 x.f2.f1.length c3, .string x.f3, .slice A5 x.f4.length c5, .slice A6 x.f5.length c6, .slice A7 x.f6.length c7] 57 ∧ Blk V (w.heap.size + 1) #[.int .i64 y.f0, .int .i64 x.f1, .string y.f2.f0, .slice B3 y.f2.f1.length d3, .string x.f3, .slice B5 x.f4.length d5, .slice B6 x.f5.length d6, .slice B7 x.f6.length d7] 57 ∧ Below w.heap.size w V) ⟨(Blk.new w _ _).alloc _, blk_two w _ _ _ _, below_alloc (below_alloc (Below.refl _ _) _) _⟩ ?_
  rintro W0 ⟨hx, hy, hb⟩
  obtain ⟨⟨x0, x1, x2, x3, x4, x5, x6, x7⟩, -⟩ := hx.cells8
  obtain ⟨⟨y0, y1, y2, y3, y4, y5, y6, y7⟩, -⟩ := hy.cells8
  have HX0 := Lib.hid hx
  have HY0 := Lib.hid hy
  have HB0 := Lib.hid hb
  clear hx hy hb
  go_wp2_with fail
  refine (C0.out _ HB0.out).mono ?_
  rintro e W1 ⟨rfl, hb⟩
  have HX1 := Lib.hid (HX0.out.below hb)
  have HY1 := Lib.hid (HY0.out.below hb)
  have HB1 := Lib.hid (below_step HB0.out hb)
  clear hb x0 x1 x2 x3 x4 x5 x6 x7 y0 y1 y2 y3 y4 y5 y6 y7
  obtain ⟨⟨x0, x1, x2, x3, x4, x5, x6, x7⟩, -⟩ := HX1.out.cells8
  obtain ⟨⟨y0, y1, y2, y3, y4, y5, y6, y7⟩, -⟩ := HY1.out.cells8
  go_wp2_with fail
  refine (C1.out _ HB1.out).mono ?_
  rintro e W2 ⟨rfl, hb⟩
  have HX2 := Lib.hid (HX1.out.below hb)
  have HY2 := Lib.hid (HY1.out.below hb)
  have HB2 := Lib.hid (below_step HB1.out hb)
  clear hb x0 x1 x2 x3 x4 x5 x6 x7 y0 y1 y2 y3 y4 y5 y6 y7
  obtain ⟨⟨x0, x1, x2, x3, x4, x5, x6, x7⟩, -⟩ := HX2.out.cells8
  obtain ⟨⟨y0, y1, y2, y3, y4, y5, y6, y7⟩, -⟩ := HY2.out.cells8
  go_wp2_with fail
  refine (C2.out _ HB2.out).mono ?_
  rintro e W3 ⟨rfl, hb⟩
  have HX3 := Lib.hid (HX2.out.below hb)
  have HY3 := Lib.hid (HY2.out.below hb)
  have HB3 := Lib.hid (below_step HB2.out hb)
  clear hb x0 x1 x2 x3 x4 x5 x6 x7 y0 y1 y2 y3 y4 y5 y6 y7
  obtain ⟨⟨x0, x1, x2, x3, x4, x5, x6, x7⟩, -⟩ := HX3.out.cells8
  obtain ⟨⟨y0, y1, y2, y3, y4, y5, y6, y7⟩, -⟩ := HY3.out.cells8
  go_wp2_with fail
  refine (C3.out _ HB3.out).mono ?_
  rintro e W4 ⟨rfl, hb⟩
  have HX4 := Lib.hid (HX3.out.below hb)
  have HY4 := Lib.hid (HY3.out.below hb)
  have HB4 := Lib.hid (below_step HB3.out hb)
  clear hb x0 x1 x2 x3 x4 x5 x6 x7 y0 y1 y2 y3 y4 y5 y6 y7
  go_wp2_with fail
  go_ret
  exact ⟨rfl, HB4.out⟩
set_option maxHeartbeats 8000000 in
set_option maxRecDepth 100000 in
theorem same_Block (x y : S59) (w : World) (vx vy : Value) (hx : VBlock w x vx) (hy : VBlock w y vy) (hr : ReBlock x y) : Calls Tryz.prog 78 #[vx, vy] w fun e w' => e = .returned (.bool true) ∧ Below w.heap.size w w' := by
  obtain ⟨A2, c2, A6, c6, A8, c8, A9, c9, A10, c10, rfl, l2, g2, l6, g6, l8, g8, l9, g9, l10, g10⟩ := hx
  obtain ⟨B2, d2, B6, d6, B8, d8, B9, d9, B10, d10, rfl, m2, h2, m6, h6, m8, h8, m9, h9, m10, h10⟩ := hy
  obtain ⟨e_f1, ⟨n_f2, b_f2, r_f2⟩, r_f3⟩ := hr
  simp only [e_f1, n_f2] at h2 ⊢
  have C0 := Lib.hid (fun V (hV : Below w.heap.size w V) => eqf_Stmt x.f2.length A2 B2 c2 d2 x.f2 y.f2 b_f2 r_f2 V (Kd.C_below g2 hV) (Kd.C_below h2 hV))
  have X1 : VTerm w x.f3 (.agg #[.int .i64 x.f3.f0, .int .i64 x.f3.f1, .string x.f3.f2.f0, .slice A6 x.f3.f2.f1.length c6, .string x.f3.f3, .slice A8 x.f3.f4.length c8, .slice A9 x.f3.f5.length c9, .slice A10 x.f3.f6.length c10]) := ⟨A6, c6, A8, c8, A9, c9, A10, c10, rfl, l6, g6, l8, g8, l9, g9, l10, g10⟩
  have Y1 : VTerm w y.f3 (.agg #[.int .i64 y.f3.f0, .int .i64 y.f3.f1, .string y.f3.f2.f0, .slice B6 y.f3.f2.f1.length d6, .string y.f3.f3, .slice B8 y.f3.f4.length d8, .slice B9 y.f3.f5.length d9, .slice B10 y.f3.f6.length d10]) := ⟨B6, d6, B8, d8, B9, d9, B10, d10, rfl, m6, h6, m8, h8, m9, h9, m10, h10⟩
  have C1 := Lib.hid (fun V (hV : Below w.heap.size w V) => same_Term x.f3 y.f3 V _ _ (X1.bel hV) (Y1.bel hV) r_f3)
  clear X1 Y1
  clear l2 g2 l6 g6 l8 g8 l9 g9 l10 g10 m2 h2 m6 h6 m8 h8 m9 h9 m10 h10 b_f2 r_f2 r_f3 e_f1 n_f2
  go_enter Tryz.func78, Tryz.ntmps78
  go_upto_region 1 with fail
  refine code_at (fun V => Blk V w.heap.size #[.int .i64 x.f0, .string x.f1, .slice A2 x.f2.length c2, .int .i64 x.f3.f0, .int .i64 x.f3.f1, .string x.f3.f2.f0, .slice A6 x.f3.f2.f1.length c6, .string x.f3.f3, .slice A8 x.f3.f4.length c8, .slice A9 x.f3.f5.length c9, .slice A10 x.f3.f6.length c10] 59 ∧ Blk V (w.heap.size + 1) #[.int .i64 y.f0, .string x.f1, .slice B2 x.f2.length d2, .int .i64 y.f3.f0, .int .i64 y.f3.f1, .string y.f3.f2.f0, .slice B6 y.f3.f2.f1.length d6, .string y.f3.f3, .slice B8 y.f3.f4.length d8, .slice B9 y.f3.f5.length d9, .slice B10 y.f3.f6.length d10] 59 ∧ Below w.heap.size w V) ⟨(Blk.new w _ _).alloc _, blk_two w _ _ _ _, below_alloc (below_alloc (Below.refl _ _) _) _⟩ ?_
  rintro W0 ⟨hx, hy, hb⟩
  obtain ⟨⟨x0, x1, x2, x3, x4, x5, x6, x7, x8, x9, x10⟩, -⟩ := hx.cells11
  obtain ⟨⟨y0, y1, y2, y3, y4, y5, y6, y7, y8, y9, y10⟩, -⟩ := hy.cells11
  have HX0 := Lib.hid hx
  have HY0 := Lib.hid hy
  have HB0 := Lib.hid hb
  clear hx hy hb
  go_wp2_with fail
  refine (C0.out _ HB0.out).mono ?_
  rintro e W1 ⟨rfl, hb⟩
  have HX1 := Lib.hid (HX0.out.below hb)
  have HY1 := Lib.hid (HY0.out.below hb)
  have HB1 := Lib.hid (below_step HB0.out hb)
  clear hb x0 x1 x2 x3 x4 x5 x6 x7 x8 x9 x10 y0 y1 y2 y3 y4 y5 y6 y7 y8 y9 y10
  obtain ⟨⟨x0, x1, x2, x3, x4, x5, x6, x7, x8, x9, x10⟩, -⟩ := HX1.out.cells11
  obtain ⟨⟨y0, y1, y2, y3, y4, y5, y6, y7, y8, y9, y10⟩, -⟩ := HY1.out.cells11
  go_wp2_with fail
  refine (C1.out _ HB1.out).mono ?_
  rintro e W2 ⟨rfl, hb⟩
  have HX2 := Lib.hid (HX1.out.below hb)
  have HY2 := Lib.hid (HY1.out.below hb)
  have HB2 := Lib.hid (below_step HB1.out hb)
  clear hb x0 x1 x2 x3 x4 x5 x6 x7 x8 x9 x10 y0 y1 y2 y3 y4 y5 y6 y7 y8 y9 y10
  go_wp2_with fail
  go_ret
  exact ⟨rfl, HB2.out⟩
set_option maxHeartbeats 8000000 in
set_option maxRecDepth 100000 in
theorem eqf_Block (n : Nat) (A B : Option Addr) (c d : Nat) (l m : List S59) (hn : n ≤ maxF) (hr : ∀ i : Nat, i < n → ReBlock (l.getD i z59) (m.getD i z59)) (w : World) (hA : Kd.C k59 w A n l) (hB : Kd.C k59 w B n m) :
    Calls Tryz.prog 77 #[.slice A n c, .slice B n d, .func (.func 78) #[] #[]] w fun e w' => e = .returned (.bool true) ∧ Below w.heap.size w w' := by
  have HA := Lib.hid hA
  have HB := Lib.hid hB
  have HN := Lib.hid hn
  have HR := Lib.hid hr
  clear hA hB hn hr
  have n0 : ((n : Int) != (n : Int)) = false := by simp
  go_enter Tryz.func77, Tryz.ntmps77
  go_wp2_with fail
  go_loopg [17] n (fun kq v8 w' => ∃ x : Nat, v8 = .int .i64 (x : Int) ∧ Aside0 (x + kq = n) ∧ Aside0 (Below w.heap.size w w'))
  case atStart => exact ⟨0, rfl, ⟨by omega⟩, ⟨Below.refl _ _⟩⟩
  case round =>
    obtain ⟨x, rfl, HX, HW⟩ := hrel
    cases gk with
    | zero =>
      have cx : decide (x < n) = false := decide_eq_false (by have := HX.out; omega)
      have cx' : decide ((x : Int) < (n : Int)) = false := decide_eq_false (by have := HX.out; omega)
      go_wp2_with fail
      go_ret
      exact ⟨rfl, HW.out⟩
    | succ kk =>
      have hxl : x < n := by have := HX.out; omega
      have cx : decide (x < n) = true := decide_eq_true hxl
      have cx' : decide ((x : Int) < (n : Int)) = true := decide_eq_true (by omega)
      have wx : IntKind.i64.wrap ((x : Int) + 1) = ((x + 1 : Nat) : Int) := by rw [i64_w]; unfold wrap64; have := HN.out; unfold maxF at this; omega
      have p1 := eq_true hxl
      have p2 : (0 ≤ (x : Int)) = True := eq_true (by omega)
      have p3 : ((x : Int) < (n : Int)) = True := eq_true (by omega)
      have HRel : Hid (ReBlock (rd_T59 l (x : Int)) (rd_T59 m (x : Int))) := Lib.hid (HR.out x hxl)
      obtain ⟨ad, A2, c2, A6, c6, A8, c8, A9, c9, A10, c10, ea, x0, x1, x2, x3, x4, x5, x6, x7, x8, x9, x10, l2, g2, l6, g6, l8, g8, l9, g9, l10, g10⟩ := at_T59 (Kd.C_below HA.out HW.out) (x : Int) (by omega) (by omega)
      have HBr := Lib.hid (fun V (hV : Below w.heap.size w V) => at_T59 (Kd.C_below HB.out hV) (x : Int) (by omega) (by omega))
      cases ea
      simp only [Int.toNat_natCast] at x0 x1 x2 x3 x4 x5 x6 x7 x8 x9 x10
      generalize rd_T59 l (x : Int) = q at *
      generalize rd_T59 m (x : Int) = r at *
      have HQ : Hid (VBlock wr q (.agg #[.int .i64 q.f0, .string q.f1, .slice A2 q.f2.length c2, .int .i64 q.f3.f0, .int .i64 q.f3.f1, .string q.f3.f2.f0, .slice A6 q.f3.f2.f1.length c6, .string q.f3.f3, .slice A8 q.f3.f4.length c8, .slice A9 q.f3.f5.length c9, .slice A10 q.f3.f6.length c10])) := Lib.hid ⟨A2, c2, A6, c6, A8, c8, A9, c9, A10, c10, rfl, l2, g2, l6, g6, l8, g8, l9, g9, l10, g10⟩
      clear hxl l2 g2 l6 g6 l8 g8 l9 g9 l10 g10
      go_upto_region 6 with fail
      refine code_at (fun V => Blk V wr.heap.size #[.int .i64 q.f0, .string q.f1, .slice A2 q.f2.length c2, .int .i64 q.f3.f0, .int .i64 q.f3.f1, .string q.f3.f2.f0, .slice A6 q.f3.f2.f1.length c6, .string q.f3.f3, .slice A8 q.f3.f4.length c8, .slice A9 q.f3.f5.length c9, .slice A10 q.f3.f6.length c10] 59 ∧ Below wr.heap.size wr V) ⟨Blk.new wr _ _, below_alloc (Below.refl _ _) _⟩ ?_
      rintro V ⟨hx, hb⟩
      have HX1 := Lib.hid hx
      have HW1 := Lib.hid hb
      clear hx hb x0 x1 x2 x3 x4 x5 x6 x7 x8 x9 x10
      obtain ⟨be, B2, d2, B6, d6, B8, d8, B9, d9, B10, d10, eb, y0, y1, y2, y3, y4, y5, y6, y7, y8, y9, y10, m2, h2, m6, h6, m8, h8, m9, h9, m10, h10⟩ := HBr.out V (below_step HW.out HW1.out)
      cases eb
      simp only [Int.toNat_natCast] at y0 y1 y2 y3 y4 y5 y6 y7 y8 y9 y10
      have HZ : Hid (VBlock V r (.agg #[.int .i64 r.f0, .string r.f1, .slice B2 r.f2.length d2, .int .i64 r.f3.f0, .int .i64 r.f3.f1, .string r.f3.f2.f0, .slice B6 r.f3.f2.f1.length d6, .string r.f3.f3, .slice B8 r.f3.f4.length d8, .slice B9 r.f3.f5.length d9, .slice B10 r.f3.f6.length d10])) := Lib.hid ⟨B2, d2, B6, d6, B8, d8, B9, d9, B10, d10, rfl, m2, h2, m6, h6, m8, h8, m9, h9, m10, h10⟩
      clear m2 h2 m6 h6 m8 h8 m9 h9 m10 h10 HBr
      go_upto_region 7 with fail
      refine code_at (fun U => Blk U wr.heap.size #[.int .i64 q.f0, .string q.f1, .slice A2 q.f2.length c2, .int .i64 q.f3.f0, .int .i64 q.f3.f1, .string q.f3.f2.f0, .slice A6 q.f3.f2.f1.length c6, .string q.f3.f3, .slice A8 q.f3.f4.length c8, .slice A9 q.f3.f5.length c9, .slice A10 q.f3.f6.length c10] 59 ∧ Blk U V.heap.size #[.int .i64 r.f0, .string r.f1, .slice B2 r.f2.length d2, .int .i64 r.f3.f0, .int .i64 r.f3.f1, .string r.f3.f2.f0, .slice B6 r.f3.f2.f1.length d6, .string r.f3.f3, .slice B8 r.f3.f4.length d8, .slice B9 r.f3.f5.length d9, .slice B10 r.f3.f6.length d10] 59 ∧ Below V.heap.size V U) ⟨HX1.out.alloc _, Blk.new V _ _, below_alloc (Below.refl _ _) _⟩ ?_
      rintro U ⟨hx, hy, hb⟩
      have HW2 := Lib.hid (below_step HW1.out hb)
      have HS := Lib.hid (same_Block q r U _ _ (HQ.out.bel HW2.out) (HZ.out.bel hb) HRel.out)
      obtain ⟨⟨x0, x1, x2, x3, x4, x5, x6, x7, x8, x9, x10⟩, -⟩ := hx.cells11
      obtain ⟨⟨z0, z1, z2, z3, z4, z5, z6, z7, z8, z9, z10⟩, -⟩ := hy.cells11
      clear hx hy hb HX1 HQ HZ HRel y0 y1 y2 y3 y4 y5 y6 y7 y8 y9 y10
      go_wp2_with fail
      refine HS.out.mono ?_
      rintro e w1 ⟨rfl, hb1⟩
      have HB1 := Aside0.mk (below_step HW.out (below_step HW2.out hb1))
      clear hb1
      go_wp2_with fail
      go_roundg kk
      case measure => omega
      case rel => exact ⟨x + 1, by simp [wx], ⟨by have := HX.out; omega⟩, ⟨HB1.out⟩⟩
set_option maxHeartbeats 8000000 in
set_option maxRecDepth 100000 in
theorem same_Struct (x y : S77) (w : World) (vx vy : Value) (hx : VStruct w x vx) (hy : VStruct w y vy) (hr : ReStruct x y) : Calls Tryz.prog 36 #[vx, vy] w fun e w' => e = .returned (.bool true) ∧ Below w.heap.size w w' := by
  obtain ⟨A4, c4, rfl, l4, g4⟩ := hx
  obtain ⟨B4, d4, rfl, m4, h4⟩ := hy
  obtain ⟨e_f1, e_f2, e_f3, e_f4, b_f4⟩ := hr
  simp only [e_f1, e_f2, e_f3, e_f4] at h4 ⊢
  have C0 := Lib.hid (fun V (hV : Below w.heap.size w V) => eqr_Var x.f4.length A4 B4 c4 d4 x.f4 b_f4 V (Kd.C_below g4 hV) (Kd.C_below h4 hV))
  clear l4 g4 m4 h4 b_f4 e_f1 e_f2 e_f3 e_f4
  go_enter Tryz.func36, Tryz.ntmps36
  go_upto_region 1 with fail
  refine code_at (fun V => Blk V w.heap.size #[.int .i64 x.f0, .string x.f1, .bool x.f2, .bool x.f3, .slice A4 x.f4.length c4] 77 ∧ Blk V (w.heap.size + 1) #[.int .i64 y.f0, .string x.f1, .bool x.f2, .bool x.f3, .slice B4 x.f4.length d4] 77 ∧ Below w.heap.size w V) ⟨(Blk.new w _ _).alloc _, blk_two w _ _ _ _, below_alloc (below_alloc (Below.refl _ _) _) _⟩ ?_
  rintro W0 ⟨hx, hy, hb⟩
  obtain ⟨⟨x0, x1, x2, x3, x4⟩, -⟩ := hx.cells5
  obtain ⟨⟨y0, y1, y2, y3, y4⟩, -⟩ := hy.cells5
  have HX0 := Lib.hid hx
  have HY0 := Lib.hid hy
  have HB0 := Lib.hid hb
  clear hx hy hb
  go_wp2_with fail
  refine (C0.out _ HB0.out).mono ?_
  rintro e W1 ⟨rfl, hb⟩
  have HX1 := Lib.hid (HX0.out.below hb)
  have HY1 := Lib.hid (HY0.out.below hb)
  have HB1 := Lib.hid (below_step HB0.out hb)
  clear hb x0 x1 x2 x3 x4 y0 y1 y2 y3 y4
  go_wp2_with fail
  go_ret
  exact ⟨rfl, HB1.out⟩
set_option maxHeartbeats 8000000 in
set_option maxRecDepth 100000 in
theorem eqf_Struct (n : Nat) (A B : Option Addr) (c d : Nat) (l m : List S77) (hn : n ≤ maxF) (hr : ∀ i : Nat, i < n → ReStruct (l.getD i z77) (m.getD i z77)) (w : World) (hA : Kd.C k77 w A n l) (hB : Kd.C k77 w B n m) :
    Calls Tryz.prog 35 #[.slice A n c, .slice B n d, .func (.func 36) #[] #[]] w fun e w' => e = .returned (.bool true) ∧ Below w.heap.size w w' := by
  have HA := Lib.hid hA
  have HB := Lib.hid hB
  have HN := Lib.hid hn
  have HR := Lib.hid hr
  clear hA hB hn hr
  have n0 : ((n : Int) != (n : Int)) = false := by simp
  go_enter Tryz.func35, Tryz.ntmps35
  go_wp2_with fail
  go_loopg [17] n (fun kq v8 w' => ∃ x : Nat, v8 = .int .i64 (x : Int) ∧ Aside0 (x + kq = n) ∧ Aside0 (Below w.heap.size w w'))
  case atStart => exact ⟨0, rfl, ⟨by omega⟩, ⟨Below.refl _ _⟩⟩
  case round =>
    obtain ⟨x, rfl, HX, HW⟩ := hrel
    cases gk with
    | zero =>
      have cx : decide (x < n) = false := decide_eq_false (by have := HX.out; omega)
      have cx' : decide ((x : Int) < (n : Int)) = false := decide_eq_false (by have := HX.out; omega)
      go_wp2_with fail
      go_ret
      exact ⟨rfl, HW.out⟩
    | succ kk =>
      have hxl : x < n := by have := HX.out; omega
      have cx : decide (x < n) = true := decide_eq_true hxl
      have cx' : decide ((x : Int) < (n : Int)) = true := decide_eq_true (by omega)
      have wx : IntKind.i64.wrap ((x : Int) + 1) = ((x + 1 : Nat) : Int) := by rw [i64_w]; unfold wrap64; have := HN.out; unfold maxF at this; omega
      have p1 := eq_true hxl
      have p2 : (0 ≤ (x : Int)) = True := eq_true (by omega)
      have p3 : ((x : Int) < (n : Int)) = True := eq_true (by omega)
      have HRel : Hid (ReStruct (rd_T77 l (x : Int)) (rd_T77 m (x : Int))) := Lib.hid (HR.out x hxl)
      obtain ⟨ad, A4, c4, ea, x0, x1, x2, x3, x4, l4, g4⟩ := at_T77 (Kd.C_below HA.out HW.out) (x : Int) (by omega) (by omega)
      have HBr := Lib.hid (fun V (hV : Below w.heap.size w V) => at_T77 (Kd.C_below HB.out hV) (x : Int) (by omega) (by omega))
      cases ea
      simp only [Int.toNat_natCast] at x0 x1 x2 x3 x4
      generalize rd_T77 l (x : Int) = q at *
      generalize rd_T77 m (x : Int) = r at *
      have HQ : Hid (VStruct wr q (.agg #[.int .i64 q.f0, .string q.f1, .bool q.f2, .bool q.f3, .slice A4 q.f4.length c4])) := Lib.hid ⟨A4, c4, rfl, l4, g4⟩
      clear hxl l4 g4
      go_upto_region 6 with fail
      refine code_at (fun V => Blk V wr.heap.size #[.int .i64 q.f0, .string q.f1, .bool q.f2, .bool q.f3, .slice A4 q.f4.length c4] 77 ∧ Below wr.heap.size wr V) ⟨Blk.new wr _ _, below_alloc (Below.refl _ _) _⟩ ?_
      rintro V ⟨hx, hb⟩
      have HX1 := Lib.hid hx
      have HW1 := Lib.hid hb
      clear hx hb x0 x1 x2 x3 x4
      obtain ⟨be, B4, d4, eb, y0, y1, y2, y3, y4, m4, h4⟩ := HBr.out V (below_step HW.out HW1.out)
      cases eb
      simp only [Int.toNat_natCast] at y0 y1 y2 y3 y4
      have HZ : Hid (VStruct V r (.agg #[.int .i64 r.f0, .string r.f1, .bool r.f2, .bool r.f3, .slice B4 r.f4.length d4])) := Lib.hid ⟨B4, d4, rfl, m4, h4⟩
      clear m4 h4 HBr
      go_upto_region 7 with fail
      refine code_at (fun U => Blk U wr.heap.size #[.int .i64 q.f0, .string q.f1, .bool q.f2, .bool q.f3, .slice A4 q.f4.length c4] 77 ∧ Blk U V.heap.size #[.int .i64 r.f0, .string r.f1, .bool r.f2, .bool r.f3, .slice B4 r.f4.length d4] 77 ∧ Below V.heap.size V U) ⟨HX1.out.alloc _, Blk.new V _ _, below_alloc (Below.refl _ _) _⟩ ?_
      rintro U ⟨hx, hy, hb⟩
      have HW2 := Lib.hid (below_step HW1.out hb)
      have HS := Lib.hid (same_Struct q r U _ _ (HQ.out.bel HW2.out) (HZ.out.bel hb) HRel.out)
      obtain ⟨⟨x0, x1, x2, x3, x4⟩, -⟩ := hx.cells5
      obtain ⟨⟨z0, z1, z2, z3, z4⟩, -⟩ := hy.cells5
      clear hx hy hb HX1 HQ HZ HRel y0 y1 y2 y3 y4
      go_wp2_with fail
      refine HS.out.mono ?_
      rintro e w1 ⟨rfl, hb1⟩
      have HB1 := Aside0.mk (below_step HW.out (below_step HW2.out hb1))
      clear hb1
      go_wp2_with fail
      go_roundg kk
      case measure => omega
      case rel => exact ⟨x + 1, by simp [wx], ⟨by have := HX.out; omega⟩, ⟨HB1.out⟩⟩
set_option maxHeartbeats 8000000 in
set_option maxRecDepth 100000 in
theorem same_Enum (x y : S80) (w : World) (vx vy : Value) (hx : VEnum w x vx) (hy : VEnum w y vy) (hr : ReEnum x y) : Calls Tryz.prog 39 #[vx, vy] w fun e w' => e = .returned (.bool true) ∧ Below w.heap.size w w' := by
  obtain ⟨A2, c2, rfl, l2, g2⟩ := hx
  obtain ⟨B2, d2, rfl, m2, h2⟩ := hy
  obtain ⟨e_f1, e_f2, b_f2⟩ := hr
  simp only [e_f1, e_f2] at h2 ⊢
  have C0 := Lib.hid (fun V (hV : Below w.heap.size w V) => eqr_Var x.f2.length A2 B2 c2 d2 x.f2 b_f2 V (Kd.C_below g2 hV) (Kd.C_below h2 hV))
  clear l2 g2 m2 h2 b_f2 e_f1 e_f2
  go_enter Tryz.func39, Tryz.ntmps39
  go_upto_region 1 with fail
  refine code_at (fun V => Blk V w.heap.size #[.int .i64 x.f0, .string x.f1, .slice A2 x.f2.length c2] 80 ∧ Blk V (w.heap.size + 1) #[.int .i64 y.f0, .string x.f1, .slice B2 x.f2.length d2] 80 ∧ Below w.heap.size w V) ⟨(Blk.new w _ _).alloc _, blk_two w _ _ _ _, below_alloc (below_alloc (Below.refl _ _) _) _⟩ ?_
  rintro W0 ⟨hx, hy, hb⟩
  obtain ⟨⟨x0, x1, x2⟩, -⟩ := hx.cells3
  obtain ⟨⟨y0, y1, y2⟩, -⟩ := hy.cells3
  have HX0 := Lib.hid hx
  have HY0 := Lib.hid hy
  have HB0 := Lib.hid hb
  clear hx hy hb
  go_wp2_with fail
  refine (C0.out _ HB0.out).mono ?_
  rintro e W1 ⟨rfl, hb⟩
  have HX1 := Lib.hid (HX0.out.below hb)
  have HY1 := Lib.hid (HY0.out.below hb)
  have HB1 := Lib.hid (below_step HB0.out hb)
  clear hb x0 x1 x2 y0 y1 y2
  go_wp2_with fail
  go_ret
  exact ⟨rfl, HB1.out⟩
set_option maxHeartbeats 8000000 in
set_option maxRecDepth 100000 in
theorem eqf_Enum (n : Nat) (A B : Option Addr) (c d : Nat) (l m : List S80) (hn : n ≤ maxF) (hr : ∀ i : Nat, i < n → ReEnum (l.getD i z80) (m.getD i z80)) (w : World) (hA : Kd.C k80 w A n l) (hB : Kd.C k80 w B n m) :
    Calls Tryz.prog 38 #[.slice A n c, .slice B n d, .func (.func 39) #[] #[]] w fun e w' => e = .returned (.bool true) ∧ Below w.heap.size w w' := by
  have HA := Lib.hid hA
  have HB := Lib.hid hB
  have HN := Lib.hid hn
  have HR := Lib.hid hr
  clear hA hB hn hr
  have n0 : ((n : Int) != (n : Int)) = false := by simp
  go_enter Tryz.func38, Tryz.ntmps38
  go_wp2_with fail
  go_loopg [17] n (fun kq v8 w' => ∃ x : Nat, v8 = .int .i64 (x : Int) ∧ Aside0 (x + kq = n) ∧ Aside0 (Below w.heap.size w w'))
  case atStart => exact ⟨0, rfl, ⟨by omega⟩, ⟨Below.refl _ _⟩⟩
  case round =>
    obtain ⟨x, rfl, HX, HW⟩ := hrel
    cases gk with
    | zero =>
      have cx : decide (x < n) = false := decide_eq_false (by have := HX.out; omega)
      have cx' : decide ((x : Int) < (n : Int)) = false := decide_eq_false (by have := HX.out; omega)
      go_wp2_with fail
      go_ret
      exact ⟨rfl, HW.out⟩
    | succ kk =>
      have hxl : x < n := by have := HX.out; omega
      have cx : decide (x < n) = true := decide_eq_true hxl
      have cx' : decide ((x : Int) < (n : Int)) = true := decide_eq_true (by omega)
      have wx : IntKind.i64.wrap ((x : Int) + 1) = ((x + 1 : Nat) : Int) := by rw [i64_w]; unfold wrap64; have := HN.out; unfold maxF at this; omega
      have p1 := eq_true hxl
      have p2 : (0 ≤ (x : Int)) = True := eq_true (by omega)
      have p3 : ((x : Int) < (n : Int)) = True := eq_true (by omega)
      have HRel : Hid (ReEnum (rd_T80 l (x : Int)) (rd_T80 m (x : Int))) := Lib.hid (HR.out x hxl)
      obtain ⟨ad, A2, c2, ea, x0, x1, x2, l2, g2⟩ := at_T80 (Kd.C_below HA.out HW.out) (x : Int) (by omega) (by omega)
      have HBr := Lib.hid (fun V (hV : Below w.heap.size w V) => at_T80 (Kd.C_below HB.out hV) (x : Int) (by omega) (by omega))
      cases ea
      simp only [Int.toNat_natCast] at x0 x1 x2
      generalize rd_T80 l (x : Int) = q at *
      generalize rd_T80 m (x : Int) = r at *
      have HQ : Hid (VEnum wr q (.agg #[.int .i64 q.f0, .string q.f1, .slice A2 q.f2.length c2])) := Lib.hid ⟨A2, c2, rfl, l2, g2⟩
      clear hxl l2 g2
      go_upto_region 6 with fail
      refine code_at (fun V => Blk V wr.heap.size #[.int .i64 q.f0, .string q.f1, .slice A2 q.f2.length c2] 80 ∧ Below wr.heap.size wr V) ⟨Blk.new wr _ _, below_alloc (Below.refl _ _) _⟩ ?_
      rintro V ⟨hx, hb⟩
      have HX1 := Lib.hid hx
      have HW1 := Lib.hid hb
      clear hx hb x0 x1 x2
      obtain ⟨be, B2, d2, eb, y0, y1, y2, m2, h2⟩ := HBr.out V (below_step HW.out HW1.out)
      cases eb
      simp only [Int.toNat_natCast] at y0 y1 y2
      have HZ : Hid (VEnum V r (.agg #[.int .i64 r.f0, .string r.f1, .slice B2 r.f2.length d2])) := Lib.hid ⟨B2, d2, rfl, m2, h2⟩
      clear m2 h2 HBr
      go_upto_region 7 with fail
      refine code_at (fun U => Blk U wr.heap.size #[.int .i64 q.f0, .string q.f1, .slice A2 q.f2.length c2] 80 ∧ Blk U V.heap.size #[.int .i64 r.f0, .string r.f1, .slice B2 r.f2.length d2] 80 ∧ Below V.heap.size V U) ⟨HX1.out.alloc _, Blk.new V _ _, below_alloc (Below.refl _ _) _⟩ ?_
      rintro U ⟨hx, hy, hb⟩
      have HW2 := Lib.hid (below_step HW1.out hb)
      have HS := Lib.hid (same_Enum q r U _ _ (HQ.out.bel HW2.out) (HZ.out.bel hb) HRel.out)
      obtain ⟨⟨x0, x1, x2⟩, -⟩ := hx.cells3
      obtain ⟨⟨z0, z1, z2⟩, -⟩ := hy.cells3
      clear hx hy hb HX1 HQ HZ HRel y0 y1 y2
      go_wp2_with fail
      refine HS.out.mono ?_
      rintro e w1 ⟨rfl, hb1⟩
      have HB1 := Aside0.mk (below_step HW.out (below_step HW2.out hb1))
      clear hb1
      go_wp2_with fail
      go_roundg kk
      case measure => omega
      case rel => exact ⟨x + 1, by simp [wx], ⟨by have := HX.out; omega⟩, ⟨HB1.out⟩⟩
set_option maxHeartbeats 8000000 in
set_option maxRecDepth 100000 in
theorem same_Func (x y : S63) (w : World) (vx vy : Value) (hx : VFunc w x vx) (hy : VFunc w y vy) (hr : ReFunc x y) : Calls Tryz.prog 41 #[vx, vy] w fun e w' => e = .returned (.bool true) ∧ Below w.heap.size w w' := by
  obtain ⟨A2, c2, A3, c3, A5, c5, rfl, l2, g2, l3, g3, l5, g5⟩ := hx
  obtain ⟨B2, d2, B3, d3, B5, d5, rfl, m2, h2, m3, h3, m5, h5⟩ := hy
  obtain ⟨e_f1, e_f2, b_f2, e_f3, b_f3, e_f4, ⟨n_f5, b_f5, r_f5⟩⟩ := hr
  simp only [e_f1, e_f2, e_f3, e_f4, n_f5] at h2 h3 h5 ⊢
  have C0 := Lib.hid (fun V (hV : Below w.heap.size w V) => eqr_Var x.f2.length A2 B2 c2 d2 x.f2 b_f2 V (Kd.C_below g2 hV) (Kd.C_below h2 hV))
  have C1 := Lib.hid (fun V (hV : Below w.heap.size w V) => eqr_Var x.f3.length A3 B3 c3 d3 x.f3 b_f3 V (Kd.C_below g3 hV) (Kd.C_below h3 hV))
  have C2 := Lib.hid (fun V (hV : Below w.heap.size w V) => eqf_Block x.f5.length A5 B5 c5 d5 x.f5 y.f5 b_f5 r_f5 V (Kd.C_below g5 hV) (Kd.C_below h5 hV))
  clear l2 g2 l3 g3 l5 g5 m2 h2 m3 h3 m5 h5 b_f2 b_f3 b_f5 r_f5 e_f1 e_f2 e_f3 e_f4 n_f5
  go_enter Tryz.func41, Tryz.ntmps41
  go_upto_region 1 with fail
  refine code_at (fun V => Blk V w.heap.size #[.int .i64 x.f0, .string x.f1, .slice A2 x.f2.length c2, .slice A3 x.f3.length c3, .string x.f4, .slice A5 x.f5.length c5] 63 ∧ Blk V (w.heap.size + 1) #[.int .i64 y.f0, .string x.f1, .slice B2 x.f2.length d2, .slice B3 x.f3.length d3, .string x.f4, .slice B5 x.f5.length d5] 63 ∧ Below w.heap.size w V) ⟨(Blk.new w _ _).alloc _, blk_two w _ _ _ _, below_alloc (below_alloc (Below.refl _ _) _) _⟩ ?_
  rintro W0 ⟨hx, hy, hb⟩
  obtain ⟨⟨x0, x1, x2, x3, x4, x5⟩, -⟩ := hx.cells6
  obtain ⟨⟨y0, y1, y2, y3, y4, y5⟩, -⟩ := hy.cells6
  have HX0 := Lib.hid hx
  have HY0 := Lib.hid hy
  have HB0 := Lib.hid hb
  clear hx hy hb
  go_wp2_with fail
  refine (C0.out _ HB0.out).mono ?_
  rintro e W1 ⟨rfl, hb⟩
  have HX1 := Lib.hid (HX0.out.below hb)
  have HY1 := Lib.hid (HY0.out.below hb)
  have HB1 := Lib.hid (below_step HB0.out hb)
  clear hb x0 x1 x2 x3 x4 x5 y0 y1 y2 y3 y4 y5
  obtain ⟨⟨x0, x1, x2, x3, x4, x5⟩, -⟩ := HX1.out.cells6
  obtain ⟨⟨y0, y1, y2, y3, y4, y5⟩, -⟩ := HY1.out.cells6
  go_wp2_with fail
  refine (C1.out _ HB1.out).mono ?_
  rintro e W2 ⟨rfl, hb⟩
  have HX2 := Lib.hid (HX1.out.below hb)
  have HY2 := Lib.hid (HY1.out.below hb)
  have HB2 := Lib.hid (below_step HB1.out hb)
  clear hb x0 x1 x2 x3 x4 x5 y0 y1 y2 y3 y4 y5
  obtain ⟨⟨x0, x1, x2, x3, x4, x5⟩, -⟩ := HX2.out.cells6
  obtain ⟨⟨y0, y1, y2, y3, y4, y5⟩, -⟩ := HY2.out.cells6
  go_wp2_with fail
  refine (C2.out _ HB2.out).mono ?_
  rintro e W3 ⟨rfl, hb⟩
  have HX3 := Lib.hid (HX2.out.below hb)
  have HY3 := Lib.hid (HY2.out.below hb)
  have HB3 := Lib.hid (below_step HB2.out hb)
  clear hb x0 x1 x2 x3 x4 x5 y0 y1 y2 y3 y4 y5
  go_wp2_with fail
  go_ret
  exact ⟨rfl, HB3.out⟩
set_option maxHeartbeats 8000000 in
set_option maxRecDepth 100000 in
theorem eqf_Func (n : Nat) (A B : Option Addr) (c d : Nat) (l m : List S63) (hn : n ≤ maxF) (hr : ∀ i : Nat, i < n → ReFunc (l.getD i z63) (m.getD i z63)) (w : World) (hA : Kd.C k63 w A n l) (hB : Kd.C k63 w B n m) :
    Calls Tryz.prog 40 #[.slice A n c, .slice B n d, .func (.func 41) #[] #[]] w fun e w' => e = .returned (.bool true) ∧ Below w.heap.size w w' := by
  have HA := Lib.hid hA
  have HB := Lib.hid hB
  have HN := Lib.hid hn
  have HR := Lib.hid hr
  clear hA hB hn hr
  have n0 : ((n : Int) != (n : Int)) = false := by simp
  go_enter Tryz.func40, Tryz.ntmps40
  go_wp2_with fail
  go_loopg [17] n (fun kq v8 w' => ∃ x : Nat, v8 = .int .i64 (x : Int) ∧ Aside0 (x + kq = n) ∧ Aside0 (Below w.heap.size w w'))
  case atStart => exact ⟨0, rfl, ⟨by omega⟩, ⟨Below.refl _ _⟩⟩
  case round =>
    obtain ⟨x, rfl, HX, HW⟩ := hrel
    cases gk with
    | zero =>
      have cx : decide (x < n) = false := decide_eq_false (by have := HX.out; omega)
      have cx' : decide ((x : Int) < (n : Int)) = false := decide_eq_false (by have := HX.out; omega)
      go_wp2_with fail
      go_ret
      exact ⟨rfl, HW.out⟩
    | succ kk =>
      have hxl : x < n := by have := HX.out; omega
      have cx : decide (x < n) = true := decide_eq_true hxl
      have cx' : decide ((x : Int) < (n : Int)) = true := decide_eq_true (by omega)
      have wx : IntKind.i64.wrap ((x : Int) + 1) = ((x + 1 : Nat) : Int) := by rw [i64_w]; unfold wrap64; have := HN.out; unfold maxF at this; omega
      have p1 := eq_true hxl
      have p2 : (0 ≤ (x : Int)) = True := eq_true (by omega)
      have p3 : ((x : Int) < (n : Int)) = True := eq_true (by omega)
      have HRel : Hid (ReFunc (rd_T63 l (x : Int)) (rd_T63 m (x : Int))) := Lib.hid (HR.out x hxl)
      obtain ⟨ad, A2, c2, A3, c3, A5, c5, ea, x0, x1, x2, x3, x4, x5, l2, g2, l3, g3, l5, g5⟩ := at_T63 (Kd.C_below HA.out HW.out) (x : Int) (by omega) (by omega)
      have HBr := Lib.hid (fun V (hV : Below w.heap.size w V) => at_T63 (Kd.C_below HB.out hV) (x : Int) (by omega) (by omega))
      cases ea
      simp only [Int.toNat_natCast] at x0 x1 x2 x3 x4 x5
      generalize rd_T63 l (x : Int) = q at *
      generalize rd_T63 m (x : Int) = r at *
      have HQ : Hid (VFunc wr q (.agg #[.int .i64 q.f0, .string q.f1, .slice A2 q.f2.length c2, .slice A3 q.f3.length c3, .string q.f4, .slice A5 q.f5.length c5])) := Lib.hid ⟨A2, c2, A3, c3, A5, c5, rfl, l2, g2, l3, g3, l5, g5⟩
      clear hxl l2 g2 l3 g3 l5 g5
      go_upto_region 6 with fail
      refine code_at (fun V => Blk V wr.heap.size #[.int .i64 q.f0, .string q.f1, .slice A2 q.f2.length c2, .slice A3 q.f3.length c3, .string q.f4, .slice A5 q.f5.length c5] 63 ∧ Below wr.heap.size wr V) ⟨Blk.new wr _ _, below_alloc (Below.refl _ _) _⟩ ?_
      rintro V ⟨hx, hb⟩
      have HX1 := Lib.hid hx
      have HW1 := Lib.hid hb
      clear hx hb x0 x1 x2 x3 x4 x5
      obtain ⟨be, B2, d2, B3, d3, B5, d5, eb, y0, y1, y2, y3, y4, y5, m2, h2, m3, h3, m5, h5⟩ := HBr.out V (below_step HW.out HW1.out)
      cases eb
      simp only [Int.toNat_natCast] at y0 y1 y2 y3 y4 y5
      have HZ : Hid (VFunc V r (.agg #[.int .i64 r.f0, .string r.f1, .slice B2 r.f2.length d2, .slice B3 r.f3.length d3, .string r.f4, .slice B5 r.f5.length d5])) := Lib.hid ⟨B2, d2, B3, d3, B5, d5, rfl, m2, h2, m3, h3, m5, h5⟩
      clear m2 h2 m3 h3 m5 h5 HBr
      go_upto_region 7 with fail
      refine code_at (fun U => Blk U wr.heap.size #[.int .i64 q.f0, .string q.f1, .slice A2 q.f2.length c2, .slice A3 q.f3.length c3, .string q.f4, .slice A5 q.f5.length c5] 63 ∧ Blk U V.heap.size #[.int .i64 r.f0, .string r.f1, .slice B2 r.f2.length d2, .slice B3 r.f3.length d3, .string r.f4, .slice B5 r.f5.length d5] 63 ∧ Below V.heap.size V U) ⟨HX1.out.alloc _, Blk.new V _ _, below_alloc (Below.refl _ _) _⟩ ?_
      rintro U ⟨hx, hy, hb⟩
      have HW2 := Lib.hid (below_step HW1.out hb)
      have HS := Lib.hid (same_Func q r U _ _ (HQ.out.bel HW2.out) (HZ.out.bel hb) HRel.out)
      obtain ⟨⟨x0, x1, x2, x3, x4, x5⟩, -⟩ := hx.cells6
      obtain ⟨⟨z0, z1, z2, z3, z4, z5⟩, -⟩ := hy.cells6
      clear hx hy hb HX1 HQ HZ HRel y0 y1 y2 y3 y4 y5
      go_wp2_with fail
      refine HS.out.mono ?_
      rintro e w1 ⟨rfl, hb1⟩
      have HB1 := Aside0.mk (below_step HW.out (below_step HW2.out hb1))
      clear hb1
      go_wp2_with fail
      go_roundg kk
      case measure => omega
      case rel => exact ⟨x + 1, by simp [wx], ⟨by have := HX.out; omega⟩, ⟨HB1.out⟩⟩
set_option maxHeartbeats 8000000 in
set_option maxRecDepth 100000 in
theorem same_Prog (x y : S27) (w : World) (vx vy : Value) (hx : VProg w x vx) (hy : VProg w y vy) (hr : ReProg x y) : Calls Tryz.prog 15 #[vx, vy] w fun e w' => e = .returned (.bool true) ∧ Below w.heap.size w w' := by
  obtain ⟨A0, c0, A1, c1, A2, c2, rfl, l0, g0, l1, g1, l2, g2⟩ := hx
  obtain ⟨B0, d0, B1, d1, B2, d2, rfl, m0, h0, m1, h1, m2, h2⟩ := hy
  obtain ⟨⟨n_f0, b_f0, r_f0⟩, ⟨n_f1, b_f1, r_f1⟩, ⟨n_f2, b_f2, r_f2⟩⟩ := hr
  simp only [n_f0, n_f1, n_f2] at h0 h1 h2 ⊢
  have C0 := Lib.hid (fun V (hV : Below w.heap.size w V) => eqf_Struct x.f0.length A0 B0 c0 d0 x.f0 y.f0 b_f0 r_f0 V (Kd.C_below g0 hV) (Kd.C_below h0 hV))
  have C1 := Lib.hid (fun V (hV : Below w.heap.size w V) => eqf_Enum x.f1.length A1 B1 c1 d1 x.f1 y.f1 b_f1 r_f1 V (Kd.C_below g1 hV) (Kd.C_below h1 hV))
  have C2 := Lib.hid (fun V (hV : Below w.heap.size w V) => eqf_Func x.f2.length A2 B2 c2 d2 x.f2 y.f2 b_f2 r_f2 V (Kd.C_below g2 hV) (Kd.C_below h2 hV))
  clear l0 g0 l1 g1 l2 g2 m0 h0 m1 h1 m2 h2 b_f0 r_f0 b_f1 r_f1 b_f2 r_f2 n_f0 n_f1 n_f2
  go_enter Tryz.func15, Tryz.ntmps15
  go_upto_region 1 with fail
  refine code_at (fun V => Blk V w.heap.size #[.slice A0 x.f0.length c0, .slice A1 x.f1.length c1, .slice A2 x.f2.length c2] 27 ∧ Blk V (w.heap.size + 1) #[.slice B0 x.f0.length d0, .slice B1 x.f1.length d1, .slice B2 x.f2.length d2] 27 ∧ Below w.heap.size w V) ⟨(Blk.new w _ _).alloc _, blk_two w _ _ _ _, below_alloc (below_alloc (Below.refl _ _) _) _⟩ ?_
  rintro W0 ⟨hx, hy, hb⟩
  obtain ⟨⟨x0, x1, x2⟩, -⟩ := hx.cells3
  obtain ⟨⟨y0, y1, y2⟩, -⟩ := hy.cells3
  have HX0 := Lib.hid hx
  have HY0 := Lib.hid hy
  have HB0 := Lib.hid hb
  clear hx hy hb
  go_wp2_with fail
  refine (C0.out _ HB0.out).mono ?_
  rintro e W1 ⟨rfl, hb⟩
  have HX1 := Lib.hid (HX0.out.below hb)
  have HY1 := Lib.hid (HY0.out.below hb)
  have HB1 := Lib.hid (below_step HB0.out hb)
  clear hb x0 x1 x2 y0 y1 y2
  obtain ⟨⟨x0, x1, x2⟩, -⟩ := HX1.out.cells3
  obtain ⟨⟨y0, y1, y2⟩, -⟩ := HY1.out.cells3
  go_wp2_with fail
  refine (C1.out _ HB1.out).mono ?_
  rintro e W2 ⟨rfl, hb⟩
  have HX2 := Lib.hid (HX1.out.below hb)
  have HY2 := Lib.hid (HY1.out.below hb)
  have HB2 := Lib.hid (below_step HB1.out hb)
  clear hb x0 x1 x2 y0 y1 y2
  obtain ⟨⟨x0, x1, x2⟩, -⟩ := HX2.out.cells3
  obtain ⟨⟨y0, y1, y2⟩, -⟩ := HY2.out.cells3
  go_wp2_with fail
  refine (C2.out _ HB2.out).mono ?_
  rintro e W3 ⟨rfl, hb⟩
  have HX3 := Lib.hid (HX2.out.below hb)
  have HY3 := Lib.hid (HY2.out.below hb)
  have HB3 := Lib.hid (below_step HB2.out hb)
  clear hb x0 x1 x2 y0 y1 y2
  go_wp2_with fail
  go_ret
  exact ⟨rfl, HB3.out⟩
theorem rw_map {α β : Type} {R : α → α → Prop} {F : α → Prop} {z : α} (f : α → β) {l m : List α} (h : m.map f = l.map f) (hl : Fl F l) (step : ∀ x y, F x → f y = f x → R x y) : Rw R z l m := by
  have hlen : m.length = l.length := by
    have := congrArg List.length h
    rw [List.length_map, List.length_map] at this
    exact this
  refine ⟨hlen, hl.1, fun i hi => ?_⟩
  have h1 : (m.map f)[i]? = (l.map f)[i]? := by rw [h]
  rw [List.getElem?_map, List.getElem?_map, List.getElem?_eq_getElem hi, List.getElem?_eq_getElem (by omega)] at h1
  rw [List.getD_eq_getElem?_getD, List.getD_eq_getElem?_getD, List.getElem?_eq_getElem hi, List.getElem?_eq_getElem (by omega)]
  exact step _ _ (hl.2 _ (List.getElem_mem hi)) (Option.some.inj h1)
theorem rw_same {α : Type} {R : α → α → Prop} {F : α → Prop} {z : α} {l m : List α} (h : m = l) (hl : Fl F l) (step : ∀ x, F x → R x x) : Rw R z l m := rw_map id (by rw [h]) hl (fun x y hx e => by have e : y = x := e; rw [e]; exact step x hx)
theorem rePlace {x y : SPlace} (h : FitP x) (e : y = x) : RePlace x y := by
  rw [e]
  exact ⟨rfl, rfl, h⟩
theorem reStmt {g : Int → Int} (x y : SStmt) (h : FitS x) (e : atStmt g y = atStmt g x) : ReStmt x y := by
  unfold atStmt at e
  injection e with e0 e1 e2 e3 e4 e5 e6
  exact ⟨e1, rePlace h.1 e2, e3, e4, e5, rw_same e6 h.2 (fun x hx => rePlace hx rfl)⟩
theorem reTerm {g : Int → Int} (x y : STerm) (h : FitT x) (e : atTerm g y = atTerm g x) : ReTerm x y := by
  unfold atTerm at e
  injection e with e0 e1 e2 e3 e4 e5 e6
  exact ⟨e1, rePlace h.1 e2, e3, rw_same e4 h.2.1 (fun x hx => rePlace hx rfl), e5, h.2.2.1, e6, h.2.2.2⟩
theorem reBlock {g : Int → Int} (x y : SBlock) (h : FitB x) (e : atBlock g y = atBlock g x) : ReBlock x y := by
  unfold atBlock at e
  injection e with e0 e1 e2 e3
  exact ⟨e1, rw_map (atStmt g) e2 h.1 (fun x y hx e => reStmt x y hx e), reTerm _ _ h.2 e3⟩
theorem reFunc {g : Int → Int} (x y : SFunc) (h : FitF x) (e : atFunc g y = atFunc g x) : ReFunc x y := by
  unfold atFunc at e
  injection e with e0 e1 e2 e3 e4 e5
  exact ⟨e1, e2, h.1, e3, h.2.1, e4, rw_map (atBlock g) e5 h.2.2 (fun x y hx e => reBlock x y hx e)⟩
theorem reStruct {g : Int → Int} (x y : SStruct) (h : FitR x) (e : atStruct g y = atStruct g x) : ReStruct x y := by
  unfold atStruct at e
  injection e with e0 e1 e2 e3 e4
  exact ⟨e1, e2, e3, e4, h⟩
theorem reEnum {g : Int → Int} (x y : SEnum) (h : FitE x) (e : atEnum g y = atEnum g x) : ReEnum x y := by
  unfold atEnum at e
  injection e with e0 e1 e2
  exact ⟨e1, e2, h⟩
theorem reProg {g : Int → Int} (x y : SProg) (h : Fit x) (e : atProg g y = atProg g x) : ReProg x y := by
  unfold atProg at e
  injection e with e0 e1 e2
  exact ⟨rw_map (atStruct g) e0 h.1 (fun x y hx e => reStruct x y hx e), rw_map (atEnum g) e1 h.2.1 (fun x y hx e => reEnum x y hx e), rw_map (atFunc g) e2 h.2.2 (fun x y hx e => reFunc x y hx e)⟩
end
end Go.Proofs.YtmgkejobolgkmaaGreatDoor.PL
