import Derived.Test.YtnlbbpandnpgoaaDoorPLx13
import Derived.Test.YtnlbbpandnpgoaaDoorLexPure5
namespace Go.Proofs.YtnlbbpandnpgoaaDoor.Pure
open Go.RowKit Go.Proofs.YtnlbbpandnpgoaaDoor.PL
set_option linter.unusedVariables false

/-- a text of small letters -/
def Smalls (l : List UInt8) : Prop := ∀ c ∈ l, isLetB (c.toNat : Int) = true
theorem span_smalls : ∀ (l r : List UInt8), Smalls l → spanN innerB (l ++ r) = l.length + spanN innerB r
  | [], r, _ => by simp
  | c :: l, r, h => by
    rw [List.cons_append, spanN_cons, if_pos (let_inner _ (h c (List.mem_cons_self ..))), span_smalls l r (fun x hx => h x (List.mem_cons_of_mem _ hx)), List.length_cons]
    omega
theorem small_facts {c : UInt8} (h : isLetB (c.toNat : Int) = true) : ¬ Blank c ∧ c ≠ 35 := by
  unfold isLetB at h
  simp only [Bool.and_eq_true, decide_eq_true_eq] at h
  unfold Blank
  refine ⟨?_, ?_⟩
  · rintro (rfl | rfl | rfl) <;> revert h <;> decide
  · rintro rfl
    revert h
    decide
/-- a text of small letters at the front, with what cannot be of a name behind it -/
theorem tokB_smalls (c : UInt8) (l r : List UInt8) (h : Smalls (c :: l)) (hr : spanN innerB r = 0) :
    tokB (c :: l ++ r) = if (c :: l).length ≤ 16 then some (if wordB ⟨(c :: l).toArray⟩ then 2 else 1, (c :: l).length, 0) else none := by
  have hs := span_smalls (c :: l) r h
  rw [hr, Nat.add_zero] at hs
  have h2 := tokB_let (c := c) (r := l ++ r) (h c (List.mem_cons_self ..))
  rw [List.cons_append, h2, ← List.cons_append, hs, List.take_left]
theorem smalls_ev (s : ByteArray) (hs : s.size ≤ 100) (hfin : Smalls s.data.toList → Ev (fun k => droguelaw03_LexWords.l0 k s (s.size : Int)) true) : ∀ (l : List UInt8) (i : Nat), At s i l → Smalls (s.data.toList.take i) → Ev (fun k => droguelaw03_LexWords.l0 k s (i : Int)) true
  | [], i, ha, hp => by
    have := ha.nil
    subst this
    refine hfin ?_
    rw [← size_l, List.take_length] at hp
    exact hp
  | c :: l, i, ha, hp => by
    have hlt := ha.lt
    refine Ev.step ?_
    simp only [droguelaw03_LexWords.l0]
    rw [ha.bt, w64s i (by omega)]
    refine Ev.pos hlt (Ev.pos (by omega) ?_)
    by_cases h1 : (c.toNat : Int) < 97
    · exact Ev.pos h1 (Ev.pure _)
    · refine Ev.neg h1 ?_
      by_cases h2 : (c.toNat : Int) > 122
      · exact Ev.pos h2 (Ev.pure _)
      · refine Ev.neg h2 (smalls_ev s hs hfin l (i + 1) ha.tl ?_)
        intro x hx
        have e : s.data.toList.take (i + 1) = s.data.toList.take i ++ [c] := by
          rw [List.take_add, ha.out]
          rfl
        rw [e, List.mem_append] at hx
        rcases hx with hx | hx
        · exact hp x hx
        · rw [List.mem_singleton] at hx
          subst hx
          unfold isLetB
          simp only [Bool.and_eq_true, decide_eq_true_eq]
          omega
theorem words_short : ∀ x ∈ wordsB, x.toList.length ≤ 16 := by decide +kernel
theorem word_short {s : ByteArray} (h : wordB s = true) : s.size ≤ 16 := by
  unfold wordB at h
  rw [List.any_eq_true] at h
  obtain ⟨x, hx, he⟩ := h
  have h1 := words_short x hx
  rw [beq_iff_eq] at he
  rw [← he, ByteArray.toList_eq] at h1
  rw [← size_l]
  exact h1
theorem LexWords : droguelaw03_LexWords.Pure := by
  intro a0 h0
  refine Ev.some_of ?_
  unfold droguelaw03_LexWords.f
  refine Ev.bind (Ev.const (show droguelaw03_alive.f = some true from rfl)) (Ev.pos rfl ?_)
  by_cases hs : (a0.size : Int) > 100
  · refine Ev.pos hs (Ev.step ?_)
    simp only [droguelaw03_LexWords.j0]
    exact Ev.pos trivial (Ev.pure _)
  · refine Ev.neg hs (Ev.step ?_)
    simp only [droguelaw03_LexWords.j0]
    by_cases h2 : ((a0.size : Int) == 0) = true
    · exact Ev.pos h2 (Ev.pure _)
    · refine Ev.neg h2 (smalls_ev a0 (by omega) ?_ a0.data.toList 0 (At.zero a0) (by intro x hx; simp at hx))
      intro hsm
      have hne : ¬ a0.size = 0 := fun e => h2 (by rw [e]; rfl)
      have hz := size_l a0
      have hname : lex_Name.f a0 = some (nameB a0) := by
        unfold lex_Name.f
        rw [if_pos (by omega)]
      have hst : ∀ x : ByteArray, (⟨x.data.toList.toArray⟩ : ByteArray) = x := fun x => rfl
      have hcat : ((a0 ++ (⟨#[59]⟩ : ByteArray)) ++ a0).data.toList = a0.data.toList ++ 59 :: a0.data.toList := by
        simp [ByteArray.data_append]
      have hcz : ((a0 ++ (⟨#[59]⟩ : ByteArray)) ++ a0).size = a0.size + 1 + a0.size := by simp [ByteArray.size_append]; rfl
      have hcz1 : (a0 ++ (⟨#[59]⟩ : ByteArray)).size = a0.size + 1 := by simp [ByteArray.size_append]; rfl
      refine Ev.step ?_
      simp only [droguelaw03_LexWords.l0]
      refine Ev.neg (by omega) ?_
      obtain ⟨c, l, hl⟩ : ∃ c l, a0.data.toList = c :: l := by
        cases h : a0.data.toList with
        | nil => rw [h] at hz; simp at hz; omega
        | cons c l => exact ⟨c, l, rfl⟩
      have hw0 : (⟨(c :: l).toArray⟩ : ByteArray) = a0 := by rw [← hl]
      rw [hl] at hsm hcat hz
      have hc := hsm c (List.mem_cons_self ..)
      obtain ⟨hnb, h35⟩ := small_facts hc
      have ht1 := tokB_smalls c l [] hsm rfl
      have ht2 := tokB_smalls c l (59 :: (c :: l)) hsm rfl
      rw [List.append_nil] at ht1
      rw [hz, hw0] at ht1 ht2
      have hnm : nameB a0 = (decide (a0.size ≤ 16) && !wordB a0) := by
        unfold nameB
        split
        · rename_i h
          rw [hl] at h
          cases h
        · rename_i c' l' h
          rw [hl] at h
          injection h with e1 e2
          subst e1
          subst e2
          have hsp := span_smalls (c :: l) [] hsm
          rw [List.append_nil, span_nil, Nat.add_zero, hz] at hsp
          rw [hc, hsp]
          simp
      by_cases h16 : a0.size ≤ 16
      · rw [if_pos h16] at ht1 ht2
        rw [decide_eq_true h16, Bool.true_and] at hnm
        obtain ⟨m, hm⟩ : ∃ m, a0.size = m + 1 := ⟨a0.size - 1, by omega⟩
        have hml : m = l.length := by simp only [List.length_cons] at hz; omega
        have hL1 : Lexes 0 a0.data.toList (consR ⟨if wordB a0 then 2 else 1, ((0 : Nat) : Int), ⟨((c :: l).take (m + 1)).toArray⟩, 0⟩ (.ok [])) := by
          rw [hl]
          refine .tok hnb h35 (by rw [ht1, hm]) ?_
          rw [hml, List.drop_length]
          exact .nil _
        have hL2 : Lexes 0 ((a0 ++ (⟨#[59]⟩ : ByteArray)) ++ a0).data.toList (consR ⟨if wordB a0 then 2 else 1, ((0 : Nat) : Int), ⟨((c :: l ++ 59 :: (c :: l)).take (m + 1)).toArray⟩, 0⟩ (consR ⟨4, ((0 + (m + 1) : Nat) : Int), ⟨((59 :: (c :: l)).take (0 + 1)).toArray⟩, 0⟩ (consR ⟨if wordB a0 then 2 else 1, ((0 + (m + 1) + (0 + 1) : Nat) : Int), ⟨((c :: l).take (m + 1)).toArray⟩, 0⟩ (.ok [])))) := by
          rw [hcat, List.cons_append]
          refine .tok hnb h35 (by rw [← List.cons_append, ht2, hm]) ?_
          rw [hml, List.drop_left]
          refine .tok (by decide) (by decide) rfl ?_
          rw [List.drop_zero]
          refine .tok hnb h35 (by rw [ht1, hm, hml]) ?_
          rw [List.drop_length]
          exact .nil _
        have htk : (⟨((c :: l).take (m + 1)).toArray⟩ : ByteArray) = a0 := by
          rw [hml, ← List.length_cons (a := c), List.take_length]
          exact hw0
        refine Ev.bind (Ev.const (lex_of (by omega) hL1)) (Ev.pos (by omega) (Ev.pos (by omega) (Ev.bind (Ev.const (lex_of (by omega) hL2)) (Ev.neg (by omega) (Ev.bind (word_ev a0) ?_)))))
        rw [htk]
        have hj : Ev (fun k => droguelaw03_LexWords.j2 k a0 [(⟨if wordB a0 then 2 else 1, ((0 : Nat) : Int), a0, 0⟩ : S35)] [(⟨if wordB a0 then 2 else 1, ((0 : Nat) : Int), ⟨((c :: l ++ 59 :: (c :: l)).take (m + 1)).toArray⟩, 0⟩ : S35), ⟨4, ((0 + (m + 1) : Nat) : Int), ⟨((59 :: (c :: l)).take (0 + 1)).toArray⟩, 0⟩, ⟨if wordB a0 then 2 else 1, ((0 + (m + 1) + (0 + 1) : Nat) : Int), a0, 0⟩] (if wordB a0 then 2 else 1) 0 0 0 0) true := by
          refine Ev.step ?_
          simp only [droguelaw03_LexWords.j2]
          rw [hname, hnm]
          have hw : wrap64 ((a0.size : Int) + 1) = ((0 + (m + 1) + (0 + 1) : Nat) : Int) := by unfold wrap64; omega
          refine Ev.bind (word_ev a0) (Ev.bind (Ev.pure _) (Ev.pos (by cases wordB a0 <;> rfl) (Ev.pos rfl (Ev.pos rfl (Ev.pos rfl (Ev.pos (by simp) (Ev.pos ?_ (Ev.pos rfl (Ev.pos (by simp) (Ev.pos rfl ?_))))))))))
          · show ((_ == _) && ((((0 : Nat) : Int) == 0) && ((a0.toList == a0.toList) && ((0 : Int) == 0)))) = true
            simp
            rfl
          · have e : ((rd_T35 [(⟨if wordB a0 then 2 else 1, ((0 : Nat) : Int), ⟨((c :: l ++ 59 :: (c :: l)).take (m + 1)).toArray⟩, 0⟩ : S35), ⟨4, ((0 + (m + 1) : Nat) : Int), ⟨((59 :: (c :: l)).take (0 + 1)).toArray⟩, 0⟩, ⟨if wordB a0 then 2 else 1, ((0 + (m + 1) + (0 + 1) : Nat) : Int), a0, 0⟩] 2).f1 == wrap64 ((a0.size : Int) + 1)) = true := by
              rw [hw, beq_iff_eq]
              rfl
            rw [e]
            exact Ev.pure _
        cases hwd : wordB a0 with
        | true =>
          rw [hwd] at hj
          exact Ev.pos rfl hj
        | false =>
          rw [hwd] at hj
          exact Ev.neg (by decide) hj
      · rw [if_neg h16] at ht1 ht2
        have hL1 : Lexes 0 a0.data.toList (.error 0) := by
          rw [hl]
          exact .bad hnb h35 ht1
        have hL2 : Lexes 0 ((a0 ++ (⟨#[59]⟩ : ByteArray)) ++ a0).data.toList (.error 0) := by
          rw [hcat, List.cons_append]
          exact .bad hnb h35 (by rw [← List.cons_append, ht2])
        have hwf : wordB a0 = false := by
          cases h : wordB a0 with
          | false => rfl
          | true => exact absurd (word_short h) h16
        have hwe := word_ev a0
        rw [hwf] at hwe
        rw [decide_eq_false h16, Bool.false_and] at hnm
        refine Ev.bind (Ev.const (lex_of (by omega) hL1)) (Ev.pos (by omega) (Ev.pos (by omega) (Ev.bind (Ev.const (lex_of (by omega) hL2)) (Ev.pos (by omega) ?_))))
        rw [hname, hnm]
        exact Ev.bind (Ev.pure _) (Ev.neg (by decide) (Ev.bind hwe (Ev.neg (by decide) (Ev.pos rfl (Ev.pure _)))))
end Go.Proofs.YtnlbbpandnpgoaaDoor.Pure
