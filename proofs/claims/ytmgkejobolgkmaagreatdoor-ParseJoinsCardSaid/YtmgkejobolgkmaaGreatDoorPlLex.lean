/- Lexing in plain words: texts as lists of bytes, numbers. No program in sight. Plain law of layer 3: lexing as a relation on lists of bytes; the document's Lex and the program's answer by it. Plain law of layer 3: the program's Lex answers as the relation says. -/
import Derived.Test.YtmgkejobolgkmaaGreatDoorLexLex
namespace Go.Proofs.YtmgkejobolgkmaaGreatDoor.PL
section
open Go.RowKit Go.Proofs.YtmgkejobolgkmaaGreatDoorW.PrintWords Go.Proofs.YtmgkejobolgkmaaGreatDoorW.PrintLast Go.Proofs.YtmgkejobolgkmaaGreatDoorW.PrintMore
set_option linter.unusedVariables false
set_option linter.unusedSimpArgs false

/-- told, with rounds enough -/
def Ev {α : Type} (f : Nat → Option α) (r : α) : Prop := ∃ K, ∀ k, K ≤ k → f k = some r
theorem Ev.pure {α : Type} (r : α) : Ev (fun _ => some r) r := ⟨0, fun _ _ => rfl⟩
theorem Ev.const {α : Type} {o : Option α} {r : α} (h : o = some r) : Ev (fun _ => o) r := ⟨0, fun _ _ => h⟩
theorem Ev.step {α : Type} {f : Nat → Option α} {r : α} (h : Ev (fun k => f (k + 1)) r) : Ev f r := by
  obtain ⟨K, h⟩ := h
  refine ⟨K + 1, fun k hk => ?_⟩
  obtain ⟨j, rfl⟩ : ∃ j, k = j + 1 := ⟨k - 1, by omega⟩
  exact h j (by omega)
theorem Ev.bind {α β : Type} {f : Nat → Option α} {g : Nat → α → Option β} {a : α} {b : β} (h : Ev f a) (h2 : Ev (fun k => g k a) b) : Ev (fun k => (f k).bind (g k)) b := by
  obtain ⟨K, h⟩ := h
  obtain ⟨K2, h2⟩ := h2
  refine ⟨max K K2, fun k hk => ?_⟩
  show (f k).bind (g k) = _
  rw [h k (by omega)]
  exact h2 k (by omega)
theorem Ev.pos {α : Type} {c : Prop} [Decidable c] {f g : Nat → Option α} {r : α} (hc : c) (h : Ev f r) : Ev (fun k => if c then f k else g k) r := by
  obtain ⟨K, h⟩ := h
  exact ⟨K, fun k hk => (if_pos hc).trans (h k hk)⟩
theorem Ev.neg {α : Type} {c : Prop} [Decidable c] {f g : Nat → Option α} {r : α} (hc : ¬ c) (h : Ev g r) : Ev (fun k => if c then f k else g k) r := by
  obtain ⟨K, h⟩ := h
  exact ⟨K, fun k hk => (if_neg hc).trans (h k hk)⟩
theorem Ev.some_of {α : Type} {f : Nat → Option α} {r : α} (h : Ev f r) : ∃ k, f k = some r := by
  obtain ⟨K, h⟩ := h
  exact ⟨K, h K (Nat.le_refl _)⟩

theorem w64 (n : Nat) (h : n < 9223372036854775808) : wrap64 (n : Int) = (n : Int) := by unfold wrap64; omega
theorem w64s (n : Nat) (h : n + 1 < 9223372036854775808) : wrap64 ((n : Int) + 1) = ((n + 1 : Nat) : Int) := by unfold wrap64; omega

/-- what stands from place i on -/
structure At (s : ByteArray) (i : Nat) (l : List UInt8) : Prop where mk :: (out : s.data.toList.drop i = l) (le : i ≤ s.size)
theorem At.zero (s : ByteArray) : At s 0 s.data.toList := ⟨rfl, Nat.zero_le _⟩
theorem size_l (s : ByteArray) : s.data.toList.length = s.size := by simp
theorem At.len {s : ByteArray} {i : Nat} {l : List UInt8} (h : At s i l) : i + l.length = s.size := by
  have := h.le
  rw [← h.out, List.length_drop, size_l]
  omega
theorem At.nil {s : ByteArray} {i : Nat} (h : At s i []) : i = s.size := by simpa using h.len
theorem At.tl {s : ByteArray} {i : Nat} {c : UInt8} {l : List UInt8} (h : At s i (c :: l)) : At s (i + 1) l := by
  refine ⟨?_, by have := h.len; simp at this; omega⟩
  rw [← List.drop_drop, h.out]
  rfl
theorem At.drop {s : ByteArray} {i : Nat} {l : List UInt8} (h : At s i l) (n : Nat) (hn : n ≤ l.length) : At s (i + n) (l.drop n) := by
  refine ⟨?_, by have := h.len; omega⟩
  rw [← List.drop_drop, h.out]
theorem At.bt {s : ByteArray} {i : Nat} {c : UInt8} {l : List UInt8} (h : At s i (c :: l)) : bt s (i : Int) = (c.toNat : Int) := by
  have hl := h.len
  simp only [List.length_cons] at hl
  have h1 : i < s.data.toList.length := by rw [size_l]; omega
  rw [bt_nat s i h1]
  have h2 : s.data.toList[i] :: s.data.toList.drop (i + 1) = c :: l := by rw [← h.out]; exact (List.drop_eq_getElem_cons h1).symm
  injection h2 with h3
  rw [h3]
theorem extract_l (s : ByteArray) (i j : Nat) : (s.extract i j).data.toList = (s.data.toList.take j).drop i := by
  simp [ByteArray.data_extract, Array.toList_extract, List.extract_eq_take_drop, List.drop_take]
theorem bytes_ext {a b : ByteArray} (h : a.data.toList = b.data.toList) : a = b := by
  apply ByteArray.ext
  exact Array.toList_inj.1 h
theorem At.extract {s : ByteArray} {i : Nat} {l : List UInt8} (h : At s i l) (n : Nat) : s.extract i (i + n) = ⟨(l.take n).toArray⟩ := by
  apply bytes_ext
  rw [extract_l, ← h.out]
  show _ = List.take n (List.drop i s.data.toList)
  rw [List.drop_take, Nat.add_sub_cancel_left]
theorem At.rest {s : ByteArray} {i : Nat} {l : List UInt8} (h : At s i l) : s.extract i s.size = ⟨l.toArray⟩ := by
  have h1 := h.extract l.length
  rw [h.len, List.take_length] at h1
  exact h1
theorem At.lt {s : ByteArray} {i : Nat} {c : UInt8} {l : List UInt8} (h : At s i (c :: l)) : (i : Int) < (s.size : Int) := by
  have := h.len
  simp only [List.length_cons] at this
  omega

/-! ### the document's small functions -/
def isDig (c : UInt8) : Bool := isDigB (c.toNat : Int)
def valD (acc : Nat) : List UInt8 → Nat
  | [] => acc
  | c :: l => valD (acc * 10 + (c.toNat - 48)) l
theorem valD_le : ∀ (l : List UInt8) (acc : Nat), acc ≤ valD acc l
  | [], _ => Nat.le_refl _
  | c :: l, acc => by
    have := valD_le l (acc * 10 + (c.toNat - 48))
    unfold valD
    omega
theorem isDig_iff (c : UInt8) : isDig c = true ↔ 48 ≤ c.toNat ∧ c.toNat ≤ 57 := by
  unfold isDig isDigB
  simp only [Bool.and_eq_true, decide_eq_true_eq]
  omega
theorem parseU (l : List UInt8) : ∀ (acc : Nat), (∀ c ∈ l, isDig c = true) → Lib.parseUintM (2 ^ 64 - 1) acc l = .ok (valD acc l) ∨ (Lib.parseUintM (2 ^ 64 - 1) acc l = .range ∧ 1099511627776 < valD acc l) := by
  induction l with
  | nil => exact fun acc _ => Or.inl rfl
  | cons c l ih =>
    intro acc hd
    have hc := (isDig_iff c).1 (hd c (List.mem_cons_self ..))
    have h2 := ih (acc * 10 + (c.toNat - 48)) (fun x hx => hd x (List.mem_cons_of_mem _ hx))
    have hv := valD_le l (acc * 10 + (c.toNat - 48))
    unfold Lib.parseUintM valD
    rw [if_pos hc]
    split
    · right
      exact ⟨rfl, by omega⟩
    · split
      · right
        refine ⟨rfl, ?_⟩
        have : (1099511627776 : Nat) < 2 ^ 64 - 1 := by decide
        omega
      · exact h2
theorem parseI_dig (c : UInt8) (l : List UInt8) (hc : isDig c = true) (hd : ∀ x ∈ l, isDig x = true) :
    Lib.parseIntB 64 (c :: l) = .ok (valD 0 (c :: l) : Int) ∨ (Lib.parseIntB 64 (c :: l) = .range ∧ 1099511627776 < valD 0 (c :: l)) := by
  have hc' := (isDig_iff c).1 hc
  have hp := parseU (c :: l) 0 (by simpa using ⟨hc, hd⟩)
  have e43 : ¬ (c.toNat = 43 ∨ c.toNat = 45) := by omega
  have e45 : ¬ c.toNat = 45 := by omega
  unfold Lib.parseIntB Lib.parseUintB
  simp only [if_neg e43, List.cons_ne_nil, if_false]
  rcases hp with h | ⟨h, hv⟩
  · simp only [h]
    generalize valD 0 (c :: l) = v
    simp only [e45, not_false_eq_true, true_and, false_and, if_false]
    by_cases h3 : 2 ^ (64 - 1) ≤ v
    · rw [if_pos h3]
      right
      exact ⟨rfl, by have : (1099511627776 : Nat) < 2 ^ (64 - 1) := by decide
                     omega⟩
    · rw [if_neg h3]
      left
      rfl
  · simp only [h]
    right
    exact ⟨trivial, hv⟩
theorem parseI_neg (l : List UInt8) (hl : l ≠ []) (hd : ∀ x ∈ l, isDig x = true) :
    Lib.parseIntB 64 (45 :: l) = .ok (-(valD 0 l : Int)) ∨ (Lib.parseIntB 64 (45 :: l) = .range ∧ 1099511627776 < valD 0 l) := by
  have hp := parseU l 0 hd
  have e43 : ((45 : UInt8).toNat = 43 ∨ (45 : UInt8).toNat = 45) := Or.inr rfl
  have e45 : (45 : UInt8).toNat = 45 := rfl
  unfold Lib.parseIntB Lib.parseUintB
  simp only [if_pos e43, hl, if_false]
  rcases hp with h | ⟨h, hv⟩
  · simp only [h]
    generalize valD 0 l = v
    simp only [e45, not_true_eq_false, true_and, false_and, if_false, if_true]
    by_cases h3 : 2 ^ (64 - 1) < v
    · rw [if_pos h3]
      right
      exact ⟨rfl, by have : (1099511627776 : Nat) < 2 ^ (64 - 1) := by decide
                     omega⟩
    · rw [if_neg h3]
      left
      rfl
  · simp only [h]
    right
    exact ⟨trivial, hv⟩
theorem numF_dig (c : UInt8) (l : List UInt8) (hc : isDig c = true) (hd : ∀ x ∈ l, isDig x = true) :
    numF (c :: l) = (if valD 0 (c :: l) ≤ 1099511627776 then ((valD 0 (c :: l) : Int), true) else ((numF (c :: l)).1, false)) := by
  unfold numF
  rcases parseI_dig c l hc hd with h | ⟨h, hv⟩
  · simp only [h]
    generalize valD 0 (c :: l) = v
    by_cases hb : v ≤ 1099511627776
    · rw [if_pos hb, decide_eq_true (by omega), decide_eq_true (by omega)]
      rfl
    · rw [if_neg hb, decide_eq_false (show ¬ (v : Int) ≤ 1099511627776 by omega), Bool.and_false]
  · simp only [h]
    generalize valD 0 (c :: l) = v at *
    rw [if_neg (by omega)]
theorem numF_neg (l : List UInt8) (hl : l ≠ []) (hd : ∀ x ∈ l, isDig x = true) :
    numF (45 :: l) = (if valD 0 l ≤ 1099511627776 then (-(valD 0 l : Int), true) else ((numF (45 :: l)).1, false)) := by
  unfold numF
  rcases parseI_neg l hl hd with h | ⟨h, hv⟩
  · simp only [h]
    generalize valD 0 l = v
    by_cases hb : v ≤ 1099511627776
    · rw [if_pos hb, decide_eq_true (by omega), decide_eq_true (by omega)]
      rfl
    · rw [if_neg hb, decide_eq_false (show ¬ -1099511627776 ≤ -(v : Int) by omega), Bool.false_and]
  · simp only [h]
    generalize valD 0 l = v at *
    rw [if_neg (by omega)]
theorem numF_minus : (numF [45]).2 = false := rfl
end
section
open Go.RowKit Go.Proofs.YtmgkejobolgkmaaGreatDoorW.PrintWords Go.Proofs.YtmgkejobolgkmaaGreatDoorW.PrintLast Go.Proofs.YtmgkejobolgkmaaGreatDoorW.PrintMore
set_option linter.unusedVariables false
set_option linter.unusedSimpArgs false

/-- the digits of a number's text -/
def digsOf (c : UInt8) (r : List UInt8) : List UInt8 := if c = 45 then r.take (spanN isDigB r) else (c :: r).take (1 + spanN isDigB r)
/-- the token at a text's beginning: kind, length, value -/
def tokB : List UInt8 → Option (Int × Nat × Int)
  | [] => none
  | c :: r =>
    if isLetB (c.toNat : Int) = true then
      if spanN innerB (c :: r) ≤ 16 then some (if wordB ⟨((c :: r).take (spanN innerB (c :: r))).toArray⟩ then 2 else 1, spanN innerB (c :: r), 0) else none
    else if c = 45 ∨ isDig c = true then
      if digsOf c r = [] ∨ 1099511627776 < valD 0 (digsOf c r) then none
      else some (3, 1 + spanN isDigB r, if c = 45 then -(valD 0 (digsOf c r) : Int) else (valD 0 (digsOf c r) : Int))
    else if signB c = true then some (4, 1, 0) else none
theorem tokB_let {c : UInt8} {r : List UInt8} (h : isLetB (c.toNat : Int) = true) :
    tokB (c :: r) = if spanN innerB (c :: r) ≤ 16 then some (if wordB ⟨((c :: r).take (spanN innerB (c :: r))).toArray⟩ then 2 else 1, spanN innerB (c :: r), 0) else none := by
  show (if isLetB (c.toNat : Int) = true then _ else _) = _
  rw [if_pos h]
theorem tokB_num {c : UInt8} {r : List UInt8} (h : ¬ isLetB (c.toNat : Int) = true) (h2 : c = 45 ∨ isDig c = true) :
    tokB (c :: r) = if digsOf c r = [] ∨ 1099511627776 < valD 0 (digsOf c r) then none else some (3, 1 + spanN isDigB r, if c = 45 then -(valD 0 (digsOf c r) : Int) else (valD 0 (digsOf c r) : Int)) := by
  show (if isLetB (c.toNat : Int) = true then _ else _) = _
  rw [if_neg h, if_pos h2]
theorem tokB_sign {c : UInt8} {r : List UInt8} (h : ¬ isLetB (c.toNat : Int) = true) (h2 : ¬ (c = 45 ∨ isDig c = true)) :
    tokB (c :: r) = if signB c = true then some (4, 1, 0) else none := by
  show (if isLetB (c.toNat : Int) = true then _ else _) = _
  rw [if_neg h, if_neg h2]
theorem let_inner (c : Int) (h : isLetB c = true) : innerB c = true := by unfold innerB; rw [h, Bool.true_or]
theorem tokB_pos {l : List UInt8} {k : Int} {n : Nat} {v : Int} (h : tokB l = some (k, n, v)) : 0 < n ∧ n ≤ l.length := by
  cases l with
  | nil => cases h
  | cons c r =>
    by_cases hc : isLetB (c.toNat : Int) = true
    · rw [tokB_let hc] at h
      split at h
      · simp only [Option.some.injEq, Prod.mk.injEq] at h
        obtain ⟨_, rfl, _⟩ := h
        refine ⟨?_, spanN_le _ _⟩
        rw [spanN_cons, if_pos (let_inner _ hc)]
        omega
      · cases h
    · by_cases h2 : c = 45 ∨ isDig c = true
      · rw [tokB_num hc h2] at h
        split at h
        · cases h
        · simp only [Option.some.injEq, Prod.mk.injEq] at h
          obtain ⟨_, rfl, _⟩ := h
          have := spanN_le isDigB r
          simp only [List.length_cons]
          omega
      · rw [tokB_sign hc h2] at h
        split at h
        · simp only [Option.some.injEq, Prod.mk.injEq] at h
          obtain ⟨_, rfl, _⟩ := h
          simp
        · cases h
theorem span_all (p : Int → Bool) : ∀ (l : List UInt8), ∀ x ∈ l.take (spanN p l), p (x.toNat : Int) = true
  | [], x, hx => by simp at hx
  | c :: l, x, hx => by
    rw [spanN_cons] at hx
    by_cases h : p (c.toNat : Int) = true
    · rw [if_pos h, List.take_succ_cons, List.mem_cons] at hx
      rcases hx with rfl | hx
      · exact h
      · exact span_all p l x hx
    · rw [if_neg h] at hx
      simp at hx
/-- behind a span stands none -/
theorem span_stop (p : Int → Bool) : ∀ (l : List UInt8), spanN p (l.drop (spanN p l)) = 0
  | [] => by simp [spanN]
  | c :: l => by
    by_cases h : p (c.toNat : Int) = true
    · rw [spanN_cons, if_pos h, List.drop_succ_cons]
      exact span_stop p l
    · rw [spanN_cons, if_neg h, List.drop_zero, spanN_cons, if_neg h]

def Blank (c : UInt8) : Prop := c = 32 ∨ c = 9 ∨ c = 10
instance (c : UInt8) : Decidable (Blank c) := by unfold Blank; infer_instance
def consR (t : S42) : Except Nat (List S42) → Except Nat (List S42)
  | .ok l => .ok (t :: l)
  | .error p => .error p
/-- from a place on, a text's tokens, or the place of what is none -/
inductive Lexes : Nat → List UInt8 → Except Nat (List S42) → Prop
  | nil (i : Nat) : Lexes i [] (.ok [])
  | blank {i : Nat} {c : UInt8} {l : List UInt8} {R : Except Nat (List S42)} : Blank c → Lexes (i + 1) l R → Lexes i (c :: l) R
  | remark {i : Nat} {l : List UInt8} {R : Except Nat (List S42)} : Lexes (i + (spanN notLF l + 1)) (l.drop (spanN notLF l)) R → Lexes i (35 :: l) R
  | bad {i : Nat} {c : UInt8} {l : List UInt8} : ¬ Blank c → c ≠ 35 → tokB (c :: l) = none → Lexes i (c :: l) (.error i)
  | tok {i : Nat} {c : UInt8} {l : List UInt8} {R : Except Nat (List S42)} {k v : Int} {m : Nat} : ¬ Blank c → c ≠ 35 → tokB (c :: l) = some (k, m + 1, v) → Lexes (i + (m + 1)) (l.drop m) R →
      Lexes i (c :: l) (consR ⟨k, (i : Int), ⟨((c :: l).take (m + 1)).toArray⟩, v⟩ R)
theorem Lexes.total : ∀ (n : Nat) (l : List UInt8) (i : Nat), l.length ≤ n → ∃ R, Lexes i l R
  | _, [], i, _ => ⟨_, .nil i⟩
  | 0, c :: l, i, h => by simp at h
  | n + 1, c :: l, i, h => by
    simp only [List.length_cons] at h
    by_cases hb : Blank c
    · obtain ⟨R, hR⟩ := total n l (i + 1) (by omega)
      exact ⟨R, .blank hb hR⟩
    · by_cases h35 : c = 35
      · subst h35
        obtain ⟨R, hR⟩ := total n (l.drop (spanN notLF l)) (i + (spanN notLF l + 1)) (by simp only [List.length_drop]; omega)
        exact ⟨R, .remark hR⟩
      · cases ht : tokB (c :: l) with
        | none => exact ⟨_, .bad hb h35 ht⟩
        | some t =>
          obtain ⟨k, m, v⟩ := t
          obtain ⟨hp, hm⟩ := tokB_pos ht
          obtain ⟨m, rfl⟩ : ∃ j, m = j + 1 := ⟨m - 1, by omega⟩
          obtain ⟨R, hR⟩ := total n (l.drop m) (i + (m + 1)) (by simp only [List.length_drop]; omega)
          exact ⟨_, .tok hb h35 ht hR⟩
theorem Lexes.skip {i : Nat} {l : List UInt8} {R : Except Nat (List S42)} (h : Lexes i l R) : Lexes (i + skipS false l) (l.drop (skipS false l)) R := by
  induction h with
  | nil i => exact .nil _
  | @blank i c l R hb _ ih =>
    have e : skipS false (c :: l) = skipS false l + 1 := by rw [skipS, if_pos (show c = 32 ∨ c = 9 ∨ c = 10 from hb)]
    rw [e, List.drop_succ_cons, show i + (skipS false l + 1) = i + 1 + skipS false l by omega]
    exact ih
  | @remark i l R _ ih =>
    have e : skipS false (35 :: l) = skipS true l + 1 := by rw [skipS, if_neg (by decide), if_pos rfl]
    rw [e, skipS_remark, List.drop_succ_cons, ← List.drop_drop, show i + (spanN notLF l + skipS false (l.drop (spanN notLF l)) + 1) = i + (spanN notLF l + 1) + skipS false (l.drop (spanN notLF l)) by omega]
    exact ih
  | @bad i c l hb h35 ht =>
    have e : skipS false (c :: l) = 0 := by rw [skipS, if_neg (show ¬ (c = 32 ∨ c = 9 ∨ c = 10) from hb), if_neg h35]
    rw [e]
    exact .bad hb h35 ht
  | @tok i c l R k v m hb h35 ht hR _ =>
    have e : skipS false (c :: l) = 0 := by rw [skipS, if_neg (show ¬ (c = 32 ∨ c = 9 ∨ c = 10) from hb), if_neg h35]
    rw [e]
    exact .tok hb h35 ht hR
/-- no more tokens than bytes -/
theorem Lexes.count {i : Nat} {l : List UInt8} {ts : List S42} (h : Lexes i l (.ok ts)) : ts.length ≤ l.length := by
  generalize hR : (Except.ok ts : Except Nat (List S42)) = R at h
  induction h generalizing ts with
  | nil i => cases hR; simp
  | @blank i c l R hb _ ih =>
    have := ih hR
    simp only [List.length_cons]
    omega
  | @remark i l R _ ih =>
    have := ih hR
    simp only [List.length_cons, List.length_drop] at this ⊢
    omega
  | @bad i c l hb h35 ht => cases hR
  | @tok i c l R k2 v m hb h35 ht hR2 ih =>
    cases R with
    | error p => cases hR
    | ok l2 =>
      unfold consR at hR
      injection hR with hR
      subst hR
      have := ih rfl
      simp only [List.length_cons, List.length_drop] at this ⊢
      omega
end
section
open Go.RowKit Go.Proofs.YtmgkejobolgkmaaGreatDoorW.PrintWords Go.Proofs.YtmgkejobolgkmaaGreatDoorW.PrintLast Go.Proofs.YtmgkejobolgkmaaGreatDoorW.PrintMore
set_option linter.unusedVariables false
set_option linter.unusedSimpArgs false

theorem take_all_dig (r : List UInt8) : ∀ x ∈ r.take (spanN isDigB r), isDig x = true := span_all isDigB r
theorem digs_dig {c : UInt8} {r : List UInt8} (h2 : c = 45 ∨ isDig c = true) : ∀ x ∈ digsOf c r, isDig x = true := by
  intro x hx
  unfold digsOf at hx
  split at hx
  · exact take_all_dig r x hx
  · rename_i h45
    have hc := h2.resolve_left h45
    rw [Nat.add_comm, List.take_succ_cons, List.mem_cons] at hx
    rcases hx with rfl | hx
    · exact hc
    · exact take_all_dig r x hx
theorem numF_digs (c : UInt8) (r : List UInt8) (h2 : c = 45 ∨ isDig c = true) :
    ((digsOf c r = [] ∨ 1099511627776 < valD 0 (digsOf c r)) → (numF ((c :: r).take (1 + spanN isDigB r))).2 = false) ∧
    (¬ (digsOf c r = [] ∨ 1099511627776 < valD 0 (digsOf c r)) → numF ((c :: r).take (1 + spanN isDigB r)) = (if c = 45 then -(valD 0 (digsOf c r) : Int) else (valD 0 (digsOf c r) : Int), true)) := by
  have hd := digs_dig (r := r) h2
  by_cases h45 : c = 45
  · subst h45
    have e : ((45 : UInt8) :: r).take (1 + spanN isDigB r) = 45 :: digsOf 45 r := by
      unfold digsOf
      rw [if_pos rfl, Nat.add_comm, List.take_succ_cons]
    rw [e]
    generalize digsOf 45 r = ds at *
    by_cases hn : ds = []
    · subst hn
      exact ⟨fun _ => numF_minus, fun h => absurd (Or.inl rfl) h⟩
    · have h := numF_neg ds hn hd
      by_cases hv : valD 0 ds ≤ 1099511627776
      · rw [if_pos hv] at h
        refine ⟨fun hh => ?_, fun _ => by rw [h, if_pos rfl]⟩
        rcases hh with hh | hh
        · exact absurd hh hn
        · omega
      · rw [if_neg hv] at h
        exact ⟨fun _ => by rw [h], fun hh => absurd (Or.inr (by omega)) hh⟩
  · have hc := h2.resolve_left h45
    have e0 : digsOf c r = c :: r.take (spanN isDigB r) := by
      unfold digsOf
      rw [if_neg h45, Nat.add_comm, List.take_succ_cons]
    have e : (c :: r).take (1 + spanN isDigB r) = digsOf c r := by
      unfold digsOf
      rw [if_neg h45]
    rw [e, e0]
    have h := numF_dig c (r.take (spanN isDigB r)) hc (take_all_dig r)
    generalize r.take (spanN isDigB r) = ds at *
    by_cases hv : valD 0 (c :: ds) ≤ 1099511627776
    · rw [if_pos hv] at h
      refine ⟨fun hh => ?_, fun _ => by rw [h, if_neg h45]⟩
      rcases hh with hh | hh
      · exact absurd hh (by simp)
      · omega
    · rw [if_neg hv] at h
      exact ⟨fun _ => by rw [h], fun hh => absurd (Or.inr (by omega)) hh⟩

theorem dig45 (c : UInt8) : (((c.toNat : Int) == 45 || isDigB (c.toNat : Int)) = true) ↔ (c = 45 ∨ isDig c = true) := by
  rw [Bool.or_eq_true]
  have e : ((c.toNat : Int) == 45) = true ↔ c = 45 := by
    rw [beq_iff_eq]
    constructor
    · intro h
      have h4 : c.toNat = 45 := by omega
      exact UInt8.toNat_inj.1 h4
    · rintro rfl
      rfl
  rw [e]
  exact Iff.rfl
theorem tokenF_of (s : ByteArray) (c : UInt8) (r : List UInt8) (hl : s.data.toList = c :: r) (hs : s.size ≤ 140737488351232) :
    (∀ k n v, tokB (c :: r) = some (k, n, v) → tokenF s = some (k, 0, ⟨((c :: r).take n).toArray⟩, v, true)) ∧ (tokB (c :: r) = none → ∃ k t v, tokenF s = some (k, 0, t, v, false)) := by
  have hx : ∀ n, s.extract 0 n = ⟨((c :: r).take n).toArray⟩ := by
    intro n
    have h := (At.zero s).extract n
    rw [Nat.zero_add, hl] at h
    exact h
  unfold tokenF
  rw [if_pos hs]
  split
  · rename_i h
    rw [hl] at h
    cases h
  · rename_i c' r' h
    rw [hl] at h
    injection h with h1 h2
    subst h1
    subst h2
    by_cases hc : isLetB (c.toNat : Int) = true
    · rw [if_pos hc, tokB_let hc]
      simp only [hx]
      by_cases h16 : spanN innerB (c :: r) ≤ 16
      · rw [if_pos h16]
        refine ⟨fun k n v h => ?_, fun h => by cases h⟩
        simp only [Option.some.injEq, Prod.mk.injEq] at h
        obtain ⟨rfl, rfl, rfl⟩ := h
        rw [decide_eq_true (by omega)]
      · rw [if_neg h16]
        refine ⟨(fun k n v h => by cases h), fun _ => ?_⟩
        rw [decide_eq_false (show ¬ ((spanN innerB (c :: r) : Nat) : Int) ≤ 16 by omega)]
        exact ⟨_, _, _, rfl⟩
    · rw [if_neg hc]
      by_cases h2 : c = 45 ∨ isDig c = true
      · rw [if_pos ((dig45 c).2 h2), tokB_num hc h2]
        simp only [hx]
        obtain ⟨n1, n2⟩ := numF_digs c r h2
        by_cases hb : digsOf c r = [] ∨ 1099511627776 < valD 0 (digsOf c r)
        · rw [if_pos hb]
          refine ⟨(fun k n v h => by cases h), fun _ => ⟨3, ⟨((c :: r).take (1 + spanN isDigB r)).toArray⟩, (numF ((c :: r).take (1 + spanN isDigB r))).1, ?_⟩⟩
          rw [n1 hb]
        · rw [if_neg hb]
          refine ⟨fun k n v h => ?_, fun h => by cases h⟩
          simp only [Option.some.injEq, Prod.mk.injEq] at h
          obtain ⟨rfl, rfl, rfl⟩ := h
          rw [n2 hb]
      · rw [if_neg (fun h => h2 ((dig45 c).1 h)), tokB_sign hc h2]
        simp only [hx]
        by_cases hg : signB c = true
        · rw [if_pos hg, if_pos hg]
          refine ⟨fun k n v h => ?_, fun h => by cases h⟩
          simp only [Option.some.injEq, Prod.mk.injEq] at h
          obtain ⟨rfl, rfl, rfl⟩ := h
          rfl
        · rw [if_neg hg, if_neg hg]
          exact ⟨(fun k n v h => by cases h), fun _ => ⟨_, _, _, rfl⟩⟩

/-- what Lex answers -/
def progR (acc : List S42) : Except Nat (List S42) → List S42 × Int × Int
  | .ok l => (acc ++ l, 0, 0)
  | .error p => ([], (p : Int), 1)
theorem progR_cons (acc : List S42) (t : S42) (R : Except Nat (List S42)) : progR (acc ++ [t]) R = progR acc (consR t R) := by
  cases R with
  | ok l => simp [progR, consR]
  | error p => rfl
theorem lexprog {i : Nat} {l : List UInt8} {R : Except Nat (List S42)} (h : Lexes i l R) : ∀ (s : ByteArray) (acc : List S42) (k : Nat), At s i l → s.size ≤ 16384 → acc.length + l.length ≤ 16384 → l.length + 1 ≤ k →
    lex_Lex.l0 k s acc ((i + skipS false l : Nat) : Int) = some (progR acc R) := by
  induction h with
  | nil i =>
    intro s acc k ha hs hk1 hk
    obtain ⟨k, rfl⟩ : ∃ j, k = j + 1 := ⟨k - 1, by omega⟩
    have := ha.nil
    have e : skipS false [] = 0 := by simp [skipS]
    rw [e, lex_Lex.l0, if_neg (by omega)]
    simp [progR]
  | @blank i c l R hb _ ih =>
    intro s acc k ha hs hk1 hk
    have e : skipS false (c :: l) = skipS false l + 1 := by rw [skipS, if_pos (show c = 32 ∨ c = 9 ∨ c = 10 from hb)]
    simp only [List.length_cons] at hk hk1
    rw [e, show i + (skipS false l + 1) = i + 1 + skipS false l by omega]
    exact ih s acc k ha.tl hs (by omega) (by omega)
  | @remark i l R _ ih =>
    intro s acc k ha hs hk1 hk
    have e : skipS false (35 :: l) = skipS true l + 1 := by rw [skipS, if_neg (by decide), if_pos rfl]
    simp only [List.length_cons] at hk hk1
    rw [e, skipS_remark, show i + (spanN notLF l + skipS false (l.drop (spanN notLF l)) + 1) = i + (spanN notLF l + 1) + skipS false (l.drop (spanN notLF l)) by omega]
    have h1 := spanN_le notLF l
    have ha2 := ha.tl.drop (spanN notLF l) h1
    rw [show i + 1 + spanN notLF l = i + (spanN notLF l + 1) by omega] at ha2
    exact ih s acc k ha2 hs (by simp only [List.length_drop]; omega) (by simp only [List.length_drop]; omega)
  | @bad i c l hb h35 ht =>
    intro s acc k ha hs hk1 hk
    have e : skipS false (c :: l) = 0 := by rw [skipS, if_neg (show ¬ (c = 32 ∨ c = 9 ∨ c = 10) from hb), if_neg h35]
    obtain ⟨k, rfl⟩ : ∃ j, k = j + 1 := ⟨k - 1, by omega⟩
    have hlt := ha.lt
    obtain ⟨k2, t2, v2, h2⟩ := (tokenF_of ⟨(c :: l).toArray⟩ c l rfl (by have := ha.len; show (c :: l).toArray.size ≤ _; simp at this ⊢; omega)).2 ht
    rw [e, lex_Lex.l0, Nat.add_zero, if_pos hlt, if_pos (by omega), if_pos (by omega), Int.toNat_natCast, ha.rest]
    unfold lex_token.f
    rw [h2]
    rfl
  | @tok i c l R k2 v m hb h35 ht hR ih =>
    intro s acc k ha hs hk1 hk
    have e : skipS false (c :: l) = 0 := by rw [skipS, if_neg (show ¬ (c = 32 ∨ c = 9 ∨ c = 10) from hb), if_neg h35]
    obtain ⟨k, rfl⟩ : ∃ j, k = j + 1 := ⟨k - 1, by omega⟩
    have hlt := ha.lt
    have hlen := ha.len
    simp only [List.length_cons] at hlen hk hk1
    have hm := (tokB_pos ht).2
    simp only [List.length_cons] at hm
    have h2 := (tokenF_of ⟨(c :: l).toArray⟩ c l rfl (by show (c :: l).toArray.size ≤ _; simp; omega)).1 _ _ _ ht
    rw [e, lex_Lex.l0, Nat.add_zero, if_pos hlt, if_pos (by omega), if_pos (by omega), Int.toNat_natCast, ha.rest]
    unfold lex_token.f
    rw [h2]
    have ha2 := ha.tl.drop m (by omega)
    rw [show i + 1 + m = i + (m + 1) by omega] at ha2
    have hz : (⟨((c :: l).take (m + 1)).toArray⟩ : ByteArray).size = m + 1 := by
      show ((c :: l).take (m + 1)).toArray.size = _
      simp
      omega
    have hw : wrap64 ((i : Int) + ((m + 1 : Nat) : Int)) = ((i + (m + 1) : Nat) : Int) := by unfold wrap64; omega
    simp only [Option.bind_some, if_true, hz, hw]
    rw [if_pos (by omega), if_pos (by omega), if_pos (by omega), Int.toNat_natCast, ha2.rest]
    unfold lex_skip.f
    rw [if_pos (by show (l.drop m).toArray.size ≤ _; simp; omega)]
    have hsk := skipS_le false (l.drop m)
    simp only [List.length_drop] at hsk
    have hw2 : wrap64 (((i + (m + 1) : Nat) : Int) + (skipS false (l.drop m) : Int)) = ((i + (m + 1) + skipS false (l.drop m) : Nat) : Int) := by unfold wrap64; omega
    simp only [Option.bind_some, hw2]
    rw [← progR_cons]
    exact ih s _ k ha2 hs (by simp only [List.length_append, List.length_cons, List.length_nil, List.length_drop]; omega) (by simp only [List.length_drop]; omega)
/-- the program's Lex at any text that is not too long -/
theorem lex_of {s : ByteArray} {R : Except Nat (List S42)} (hs : s.size ≤ 16384) (h : Lexes 0 s.data.toList R) : lex_Lex.f s = some (progR [] R) := by
  unfold lex_Lex.f lex_Lex.g lex_skip.f
  rw [if_neg (by omega), if_pos (by omega)]
  have h2 := lexprog h s [] (s.size + 2) (At.zero s) hs (by rw [size_l]; simpa using hs) (by rw [size_l]; omega)
  rw [Nat.zero_add] at h2
  exact h2
theorem lex_long {s : ByteArray} (hs : 16384 < s.size) : lex_Lex.f s = some ([], 16384, 3) := by
  unfold lex_Lex.f lex_Lex.g
  rw [if_pos (by omega)]
end
end Go.Proofs.YtmgkejobolgkmaaGreatDoor.PL
