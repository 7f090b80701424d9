/- Plain law of layer 3: lexing as a relation on lists of bytes; the document's Lex and the program's answer by it. -/
import Derived.Test.YtnlbbpandnpgoaaDoorLexPure
namespace Go.Proofs.YtnlbbpandnpgoaaDoor.PL
open Go.RowKit Go.Proofs.YtnlbbpandnpgoaaDoorW.PrintWords Go.Proofs.YtnlbbpandnpgoaaDoorW.PrintLast Go.Proofs.YtnlbbpandnpgoaaDoorW.PrintMore
set_option linter.unusedVariables false
set_option linter.unusedSimpArgs false

/-- the digits of a number's text -/
def digsOf (c : UInt8) (r : List UInt8) : List UInt8 := if c = 45 then r.take (spanN isDigB r) else (c :: r).take (1 + spanN isDigB r)
/-- the token at a text's beginning: kind, length, value -/
def tokB : List UInt8 → Option (Int × Nat × Int)
  | [] => none
  | c :: r =>
    if isLetB (c.toNat : Int) = true then
      if spanN innerB (c :: r) ≤ 16 then some (if wordB ⟨((c :: r).take (spanN innerB (c :: r))).toArray⟩ then 2 else 1, spanN innerB (c :: r), 0) else none
    else if c = 45 ∨ isDig c = true then
      if digsOf c r = [] ∨ 1099511627776 < valD 0 (digsOf c r) then none
      else some (3, 1 + spanN isDigB r, if c = 45 then -(valD 0 (digsOf c r) : Int) else (valD 0 (digsOf c r) : Int))
    else if signB c = true then some (4, 1, 0) else none
theorem tokB_let {c : UInt8} {r : List UInt8} (h : isLetB (c.toNat : Int) = true) :
    tokB (c :: r) = if spanN innerB (c :: r) ≤ 16 then some (if wordB ⟨((c :: r).take (spanN innerB (c :: r))).toArray⟩ then 2 else 1, spanN innerB (c :: r), 0) else none := by
  show (if isLetB (c.toNat : Int) = true then _ else _) = _
  rw [if_pos h]
theorem tokB_num {c : UInt8} {r : List UInt8} (h : ¬ isLetB (c.toNat : Int) = true) (h2 : c = 45 ∨ isDig c = true) :
    tokB (c :: r) = if digsOf c r = [] ∨ 1099511627776 < valD 0 (digsOf c r) then none else some (3, 1 + spanN isDigB r, if c = 45 then -(valD 0 (digsOf c r) : Int) else (valD 0 (digsOf c r) : Int)) := by
  show (if isLetB (c.toNat : Int) = true then _ else _) = _
  rw [if_neg h, if_pos h2]
theorem tokB_sign {c : UInt8} {r : List UInt8} (h : ¬ isLetB (c.toNat : Int) = true) (h2 : ¬ (c = 45 ∨ isDig c = true)) :
    tokB (c :: r) = if signB c = true then some (4, 1, 0) else none := by
  show (if isLetB (c.toNat : Int) = true then _ else _) = _
  rw [if_neg h, if_neg h2]
theorem let_inner (c : Int) (h : isLetB c = true) : innerB c = true := by unfold innerB; rw [h, Bool.true_or]
theorem tokB_pos {l : List UInt8} {k : Int} {n : Nat} {v : Int} (h : tokB l = some (k, n, v)) : 0 < n ∧ n ≤ l.length := by
  cases l with
  | nil => cases h
  | cons c r =>
    by_cases hc : isLetB (c.toNat : Int) = true
    · rw [tokB_let hc] at h
      split at h
      · simp only [Option.some.injEq, Prod.mk.injEq] at h
        obtain ⟨_, rfl, _⟩ := h
        refine ⟨?_, spanN_le _ _⟩
        rw [spanN_cons, if_pos (let_inner _ hc)]
        omega
      · cases h
    · by_cases h2 : c = 45 ∨ isDig c = true
      · rw [tokB_num hc h2] at h
        split at h
        · cases h
        · simp only [Option.some.injEq, Prod.mk.injEq] at h
          obtain ⟨_, rfl, _⟩ := h
          have := spanN_le isDigB r
          simp only [List.length_cons]
          omega
      · rw [tokB_sign hc h2] at h
        split at h
        · simp only [Option.some.injEq, Prod.mk.injEq] at h
          obtain ⟨_, rfl, _⟩ := h
          simp
        · cases h
theorem span_all (p : Int → Bool) : ∀ (l : List UInt8), ∀ x ∈ l.take (spanN p l), p (x.toNat : Int) = true
  | [], x, hx => by simp at hx
  | c :: l, x, hx => by
    rw [spanN_cons] at hx
    by_cases h : p (c.toNat : Int) = true
    · rw [if_pos h, List.take_succ_cons, List.mem_cons] at hx
      rcases hx with rfl | hx
      · exact h
      · exact span_all p l x hx
    · rw [if_neg h] at hx
      simp at hx
/-- behind a span stands none -/
theorem span_stop (p : Int → Bool) : ∀ (l : List UInt8), spanN p (l.drop (spanN p l)) = 0
  | [] => by simp [spanN]
  | c :: l => by
    by_cases h : p (c.toNat : Int) = true
    · rw [spanN_cons, if_pos h, List.drop_succ_cons]
      exact span_stop p l
    · rw [spanN_cons, if_neg h, List.drop_zero, spanN_cons, if_neg h]

def Blank (c : UInt8) : Prop := c = 32 ∨ c = 9 ∨ c = 10
instance (c : UInt8) : Decidable (Blank c) := by unfold Blank; infer_instance
def consR (t : S35) : Except Nat (List S35) → Except Nat (List S35)
  | .ok l => .ok (t :: l)
  | .error p => .error p
/-- from a place on, a text's tokens, or the place of what is none -/
inductive Lexes : Nat → List UInt8 → Except Nat (List S35) → Prop
  | nil (i : Nat) : Lexes i [] (.ok [])
  | blank {i : Nat} {c : UInt8} {l : List UInt8} {R : Except Nat (List S35)} : Blank c → Lexes (i + 1) l R → Lexes i (c :: l) R
  | remark {i : Nat} {l : List UInt8} {R : Except Nat (List S35)} : Lexes (i + (spanN notLF l + 1)) (l.drop (spanN notLF l)) R → Lexes i (35 :: l) R
  | bad {i : Nat} {c : UInt8} {l : List UInt8} : ¬ Blank c → c ≠ 35 → tokB (c :: l) = none → Lexes i (c :: l) (.error i)
  | tok {i : Nat} {c : UInt8} {l : List UInt8} {R : Except Nat (List S35)} {k v : Int} {m : Nat} : ¬ Blank c → c ≠ 35 → tokB (c :: l) = some (k, m + 1, v) → Lexes (i + (m + 1)) (l.drop m) R →
      Lexes i (c :: l) (consR ⟨k, (i : Int), ⟨((c :: l).take (m + 1)).toArray⟩, v⟩ R)
theorem Lexes.total : ∀ (n : Nat) (l : List UInt8) (i : Nat), l.length ≤ n → ∃ R, Lexes i l R
  | _, [], i, _ => ⟨_, .nil i⟩
  | 0, c :: l, i, h => by simp at h
  | n + 1, c :: l, i, h => by
    simp only [List.length_cons] at h
    by_cases hb : Blank c
    · obtain ⟨R, hR⟩ := total n l (i + 1) (by omega)
      exact ⟨R, .blank hb hR⟩
    · by_cases h35 : c = 35
      · subst h35
        obtain ⟨R, hR⟩ := total n (l.drop (spanN notLF l)) (i + (spanN notLF l + 1)) (by simp only [List.length_drop]; omega)
        exact ⟨R, .remark hR⟩
      · cases ht : tokB (c :: l) with
        | none => exact ⟨_, .bad hb h35 ht⟩
        | some t =>
          obtain ⟨k, m, v⟩ := t
          obtain ⟨hp, hm⟩ := tokB_pos ht
          obtain ⟨m, rfl⟩ : ∃ j, m = j + 1 := ⟨m - 1, by omega⟩
          obtain ⟨R, hR⟩ := total n (l.drop m) (i + (m + 1)) (by simp only [List.length_drop]; omega)
          exact ⟨_, .tok hb h35 ht hR⟩
theorem Lexes.skip {i : Nat} {l : List UInt8} {R : Except Nat (List S35)} (h : Lexes i l R) : Lexes (i + skipS false l) (l.drop (skipS false l)) R := by
  induction h with
  | nil i => exact .nil _
  | @blank i c l R hb _ ih =>
    have e : skipS false (c :: l) = skipS false l + 1 := by rw [skipS, if_pos (show c = 32 ∨ c = 9 ∨ c = 10 from hb)]
    rw [e, List.drop_succ_cons, show i + (skipS false l + 1) = i + 1 + skipS false l by omega]
    exact ih
  | @remark i l R _ ih =>
    have e : skipS false (35 :: l) = skipS true l + 1 := by rw [skipS, if_neg (by decide), if_pos rfl]
    rw [e, skipS_remark, List.drop_succ_cons, ← List.drop_drop, show i + (spanN notLF l + skipS false (l.drop (spanN notLF l)) + 1) = i + (spanN notLF l + 1) + skipS false (l.drop (spanN notLF l)) by omega]
    exact ih
  | @bad i c l hb h35 ht =>
    have e : skipS false (c :: l) = 0 := by rw [skipS, if_neg (show ¬ (c = 32 ∨ c = 9 ∨ c = 10) from hb), if_neg h35]
    rw [e]
    exact .bad hb h35 ht
  | @tok i c l R k v m hb h35 ht hR _ =>
    have e : skipS false (c :: l) = 0 := by rw [skipS, if_neg (show ¬ (c = 32 ∨ c = 9 ∨ c = 10) from hb), if_neg h35]
    rw [e]
    exact .tok hb h35 ht hR
/-- no more tokens than bytes -/
theorem Lexes.count {i : Nat} {l : List UInt8} {ts : List S35} (h : Lexes i l (.ok ts)) : ts.length ≤ l.length := by
  generalize hR : (Except.ok ts : Except Nat (List S35)) = R at h
  induction h generalizing ts with
  | nil i => cases hR; simp
  | @blank i c l R hb _ ih =>
    have := ih hR
    simp only [List.length_cons]
    omega
  | @remark i l R _ ih =>
    have := ih hR
    simp only [List.length_cons, List.length_drop] at this ⊢
    omega
  | @bad i c l hb h35 ht => cases hR
  | @tok i c l R k2 v m hb h35 ht hR2 ih =>
    cases R with
    | error p => cases hR
    | ok l2 =>
      unfold consR at hR
      injection hR with hR
      subst hR
      have := ih rfl
      simp only [List.length_cons, List.length_drop] at this ⊢
      omega
end Go.Proofs.YtnlbbpandnpgoaaDoor.PL
