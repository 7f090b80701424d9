/- Plain law of layer 3: two texts with a line feed between. No program in sight. -/
import Derived.Test.YtnlbbpandnpgoaaDoorLexPure5
namespace Go.Proofs.YtnlbbpandnpgoaaDoor.PL
open Go.RowKit Go.Proofs.YtnlbbpandnpgoaaDoorW.PrintWords Go.Proofs.YtnlbbpandnpgoaaDoorW.PrintLast Go.Proofs.YtnlbbpandnpgoaaDoorW.PrintMore
set_option linter.unusedVariables false

theorem span_cut (p : Int → Bool) (hp : p 10 = false) (r : List UInt8) : ∀ (l : List UInt8), spanN p (l ++ 10 :: r) = spanN p l
  | [] => by
    rw [List.nil_append, spanN_cons, if_neg]
    · rfl
    · show ¬ p 10 = true
      rw [hp]
      decide
  | c :: l => by rw [List.cons_append, spanN_cons, spanN_cons, span_cut p hp r l]
theorem take_cut {l r : List UInt8} {n : Nat} (h : n ≤ l.length) : (l ++ 10 :: r).take n = l.take n := List.take_append_of_le_length h
theorem drop_cut {l r : List UInt8} {n : Nat} (h : n ≤ l.length) : (l ++ 10 :: r).drop n = l.drop n ++ 10 :: r := List.drop_append_of_le_length h
theorem tokB_cut (c : UInt8) (l r : List UInt8) : tokB (c :: (l ++ 10 :: r)) = tokB (c :: l) := by
  by_cases hc : isLetB (c.toNat : Int) = true
  · have hs := span_cut innerB rfl r (c :: l)
    have ht := take_cut (r := r) (spanN_le innerB (c :: l))
    rw [List.cons_append] at hs ht
    rw [tokB_let hc, tokB_let hc, hs, ht]
  · by_cases h2 : c = 45 ∨ isDig c = true
    · have hs := span_cut isDigB rfl r l
      have hd : digsOf c (l ++ 10 :: r) = digsOf c l := by
        unfold digsOf
        rw [hs, take_cut (spanN_le isDigB l), Nat.add_comm, List.take_succ_cons, List.take_succ_cons, take_cut (spanN_le isDigB l)]
      rw [tokB_num hc h2, tokB_num hc h2, hs, hd]
    · rw [tokB_sign hc h2, tokB_sign hc h2]
def appR (ts : List S35) : Except Nat (List S35) → Except Nat (List S35)
  | .ok l => .ok (ts ++ l)
  | .error p => .error p
theorem appR_cons (t : S35) (ts : List S35) (R : Except Nat (List S35)) : consR t (appR ts R) = appR (t :: ts) R := by cases R <;> rfl
theorem appR_nil (R : Except Nat (List S35)) : appR [] R = R := by cases R <;> rfl
theorem Lexes.cut_bad {i : Nat} {l : List UInt8} {R : Except Nat (List S35)} (h : Lexes i l R) : ∀ p, R = .error p → ∀ r, Lexes i (l ++ 10 :: r) (.error p) := by
  induction h with
  | nil i => intro p hp; cases hp
  | @blank i c l R hb _ ih =>
    intro p hp r
    exact .blank hb (ih p hp r)
  | @remark i l R _ ih =>
    intro p hp r
    have := ih p hp r
    rw [List.cons_append]
    refine .remark ?_
    rw [span_cut notLF rfl, drop_cut (spanN_le notLF l)]
    exact this
  | @bad i c l hb h35 ht =>
    intro p hp r
    injection hp with hp
    subst hp
    rw [List.cons_append]
    exact .bad hb h35 (by rw [tokB_cut]; exact ht)
  | @tok i c l R k2 v m hb h35 ht hR2 ih =>
    intro p hp r
    cases R with
    | ok l2 => cases hp
    | error q =>
      unfold consR at hp
      injection hp with hp
      subst hp
      have hm := (tokB_pos ht).2
      simp only [List.length_cons] at hm
      rw [List.cons_append]
      exact Lexes.tok (R := .error q) (m := m) hb h35 (by rw [tokB_cut]; exact ht) (by rw [drop_cut (by omega)]; exact ih q rfl r)
theorem Lexes.cut_ok {i : Nat} {l : List UInt8} {R : Except Nat (List S35)} (h : Lexes i l R) : ∀ ts, R = .ok ts → ∀ r R2, Lexes (i + l.length + 1) r R2 → Lexes i (l ++ 10 :: r) (appR ts R2) := by
  induction h with
  | nil i =>
    intro ts hp r R2 h2
    injection hp with hp
    subst hp
    rw [appR_nil]
    exact .blank (Or.inr (Or.inr rfl)) h2
  | @blank i c l R hb _ ih =>
    intro ts hp r R2 h2
    refine .blank hb (ih ts hp r R2 ?_)
    rw [List.length_cons] at h2
    rw [show i + 1 + l.length + 1 = i + (l.length + 1) + 1 by omega]
    exact h2
  | @remark i l R _ ih =>
    intro ts hp r R2 h2
    have hle := spanN_le notLF l
    rw [List.cons_append]
    refine .remark ?_
    rw [span_cut notLF rfl, drop_cut hle]
    refine ih ts hp r R2 ?_
    rw [List.length_cons] at h2
    rw [List.length_drop, show i + (spanN notLF l + 1) + (l.length - spanN notLF l) + 1 = i + (l.length + 1) + 1 by omega]
    exact h2
  | @bad i c l hb h35 ht => intro ts hp; cases hp
  | @tok i c l R k2 v m hb h35 ht hR2 ih =>
    intro ts hp r R2 h2
    cases R with
    | error q => cases hp
    | ok l2 =>
      unfold consR at hp
      injection hp with hp
      subst hp
      have hm := (tokB_pos ht).2
      simp only [List.length_cons] at hm h2
      rw [← appR_cons]
      have hx : (c :: (l ++ 10 :: r)).take (m + 1) = (c :: l).take (m + 1) := by rw [← List.cons_append, take_cut (by simp only [List.length_cons]; omega)]
      rw [List.cons_append]
      have := Lexes.tok (i := i) (c := c) (l := l ++ 10 :: r) (m := m) (R := appR l2 R2) hb h35 (by rw [tokB_cut]; exact ht) (by
        rw [drop_cut (by omega)]
        refine ih l2 rfl r R2 ?_
        rw [List.length_drop, show i + (m + 1) + (l.length - m) + 1 = i + (l.length + 1) + 1 by omega]
        exact h2)
      rw [hx] at this
      exact this
def sh (d : Nat) (t : S35) : S35 := ⟨t.f0, t.f1 + (d : Int), t.f2, t.f3⟩
def shR (d : Nat) : Except Nat (List S35) → Except Nat (List S35)
  | .ok l => .ok (l.map (sh d))
  | .error p => .error (p + d)
theorem shR_cons (d : Nat) (t : S35) (R : Except Nat (List S35)) : shR d (consR t R) = consR (sh d t) (shR d R) := by cases R <;> rfl
theorem Lexes.shift {i : Nat} {l : List UInt8} {R : Except Nat (List S35)} (h : Lexes i l R) (d : Nat) : Lexes (i + d) l (shR d R) := by
  induction h with
  | nil i => exact .nil _
  | @blank i c l R hb _ ih =>
    refine .blank hb ?_
    rw [show i + d + 1 = i + 1 + d by omega]
    exact ih
  | @remark i l R _ ih =>
    refine .remark ?_
    rw [show i + d + (spanN notLF l + 1) = i + (spanN notLF l + 1) + d by omega]
    exact ih
  | @bad i c l hb h35 ht => exact .bad hb h35 ht
  | @tok i c l R k2 v m hb h35 ht hR2 ih =>
    rw [shR_cons]
    have := Lexes.tok (i := i + d) (m := m) (R := shR d R) hb h35 ht (by rw [show i + d + (m + 1) = i + (m + 1) + d by omega]; exact ih)
    have e : sh d ⟨k2, (i : Int), ⟨((c :: l).take (m + 1)).toArray⟩, v⟩ = ⟨k2, ((i + d : Nat) : Int), ⟨((c :: l).take (m + 1)).toArray⟩, v⟩ := by
      unfold sh
      simp
    rw [e]
    exact this
/-- both texts, as one -/
def cutText (a b : ByteArray) : ByteArray := (a ++ (⟨#[10]⟩ : ByteArray)) ++ b
theorem cutText_list (a b : ByteArray) : (cutText a b).data.toList = a.data.toList ++ 10 :: b.data.toList := by
  unfold cutText
  simp [ByteArray.data_append]
theorem cutText_size (a b : ByteArray) : (cutText a b).size = a.size + 1 + b.size := by
  unfold cutText
  rw [ByteArray.size_append, ByteArray.size_append]
  rfl
/-- what the three answers are -/
inductive Cut3 (a b : ByteArray) : Prop
  | first (p : Nat) (h1 : lex_Lex.f a = some ([], (p : Int), 1)) (R : List S35 × Int × Int) (h2 : lex_Lex.f b = some R) (h3 : lex_Lex.f (cutText a b) = some ([], (p : Int), 1)) (hp : p ≤ 4000)
  | second (l : List S35) (p : Nat) (h1 : lex_Lex.f a = some (l, 0, 0)) (h2 : lex_Lex.f b = some ([], (p : Int), 1)) (h3 : lex_Lex.f (cutText a b) = some ([], ((p + (a.size + 1) : Nat) : Int), 1)) (hp : p ≤ 4000)
  | both (l m : List S35) (h1 : lex_Lex.f a = some (l, 0, 0)) (h2 : lex_Lex.f b = some (m, 0, 0)) (h3 : lex_Lex.f (cutText a b) = some (l ++ m.map (sh (a.size + 1)), 0, 0)) (hl : l.length ≤ 4000) (hm : m.length ≤ 4000) (hat : ∀ t ∈ m, 0 ≤ t.f1 ∧ t.f1 ≤ 4000)
theorem at_le {i : Nat} {l : List UInt8} {R : Except Nat (List S35)} (h : Lexes i l R) : (∀ p, R = .error p → p ≤ i + l.length) ∧ (∀ ts, R = .ok ts → ∀ t ∈ ts, (i : Int) ≤ t.f1 ∧ t.f1 ≤ ((i + l.length : Nat) : Int)) := by
  induction h with
  | nil i =>
    refine ⟨(fun p hp => by cases hp), fun ts hp t ht => ?_⟩
    injection hp with hp
    subst hp
    cases ht
  | @blank i c l R hb _ ih =>
    refine ⟨fun p hp => ?_, fun ts hp t ht => ?_⟩
    · have := ih.1 p hp
      simp only [List.length_cons]
      omega
    · have := ih.2 ts hp t ht
      simp only [List.length_cons]
      omega
  | @remark i l R _ ih =>
    have hle := spanN_le notLF l
    refine ⟨fun p hp => ?_, fun ts hp t ht => ?_⟩
    · have := ih.1 p hp
      simp only [List.length_cons, List.length_drop] at *
      omega
    · have := ih.2 ts hp t ht
      simp only [List.length_cons, List.length_drop] at *
      omega
  | @bad i c l hb h35 ht =>
    refine ⟨fun p hp => ?_, fun ts hp => by cases hp⟩
    injection hp with hp
    omega
  | @tok i c l R k2 v m hb h35 ht hR2 ih =>
    have hm := (tokB_pos ht).2
    simp only [List.length_cons] at hm
    refine ⟨fun p hp => ?_, fun ts hp t hmem => ?_⟩
    · cases R with
      | ok l2 => cases hp
      | error q =>
        unfold consR at hp
        injection hp with hp
        subst hp
        have := ih.1 q rfl
        simp only [List.length_cons, List.length_drop] at *
        omega
    · cases R with
      | error q => cases hp
      | ok l2 =>
        unfold consR at hp
        injection hp with hp
        subst hp
        rw [List.mem_cons] at hmem
        rcases hmem with rfl | hmem
        · show (i : Int) ≤ (i : Int) ∧ (i : Int) ≤ _
          simp only [List.length_cons]
          omega
        · have := ih.2 l2 rfl t hmem
          simp only [List.length_cons, List.length_drop] at *
          omega
theorem cut3 (a b : ByteArray) (ha : a.size ≤ 4000) (hb : b.size ≤ 4000) : Cut3 a b := by
  obtain ⟨R1, h1⟩ := Lexes.total a.data.toList.length a.data.toList 0 (Nat.le_refl _)
  obtain ⟨R2, h2⟩ := Lexes.total b.data.toList.length b.data.toList 0 (Nat.le_refl _)
  have f1 := lex_of (by omega) h1
  have f2 := lex_of (by omega) h2
  have hz := cutText_size a b
  have za := size_l a
  have zb := size_l b
  cases R1 with
  | error p =>
    have h3 := h1.cut_bad p rfl b.data.toList
    rw [← cutText_list] at h3
    have := (at_le h1).1 p rfl
    exact .first p f1 _ f2 (lex_of (by omega) h3) (by omega)
  | ok l =>
    have hs := h2.shift (a.size + 1)
    have h3 := h1.cut_ok l rfl b.data.toList (shR (a.size + 1) R2) (by rw [za, show 0 + a.size + 1 = 0 + (a.size + 1) by omega]; exact hs)
    rw [← cutText_list] at h3
    have f3 := lex_of (by omega) h3
    cases R2 with
    | error p =>
      have := (at_le h2).1 p rfl
      exact .second l p f1 f2 f3 (by omega)
    | ok m =>
      have c1 := h1.count
      have c2 := h2.count
      refine .both l m f1 f2 f3 (by omega) (by omega) (fun t ht => ?_)
      have := (at_le h2).2 m rfl t ht
      omega
end Go.Proofs.YtnlbbpandnpgoaaDoor.PL
