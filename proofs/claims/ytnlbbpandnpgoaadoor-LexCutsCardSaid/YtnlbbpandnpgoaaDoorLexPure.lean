/- Plain law of layer 3: what the document's functions compute, as functions on lists of bytes. No program in sight. -/
import Derived.Test.YtnlbbpandnpgoaaDoorPLx4
import Derived.Test.YtnlbbpandnpgoaaDoorPLx3
import Derived.Test.YtnlbbpandnpgoaaDoorPLx5
import Derived.Test.YtnlbbpandnpgoaaDoorLexName
import Derived.Test.YtnlbbpandnpgoaaDoorLexLex
namespace Go.Proofs.YtnlbbpandnpgoaaDoor.PL
open Go.RowKit Go.Proofs.YtnlbbpandnpgoaaDoorW.PrintWords Go.Proofs.YtnlbbpandnpgoaaDoorW.PrintLast Go.Proofs.YtnlbbpandnpgoaaDoorW.PrintMore
set_option linter.unusedVariables false
set_option linter.unusedSimpArgs false

/-- told, with rounds enough -/
def Ev {α : Type} (f : Nat → Option α) (r : α) : Prop := ∃ K, ∀ k, K ≤ k → f k = some r
theorem Ev.pure {α : Type} (r : α) : Ev (fun _ => some r) r := ⟨0, fun _ _ => rfl⟩
theorem Ev.const {α : Type} {o : Option α} {r : α} (h : o = some r) : Ev (fun _ => o) r := ⟨0, fun _ _ => h⟩
theorem Ev.step {α : Type} {f : Nat → Option α} {r : α} (h : Ev (fun k => f (k + 1)) r) : Ev f r := by
  obtain ⟨K, h⟩ := h
  refine ⟨K + 1, fun k hk => ?_⟩
  obtain ⟨j, rfl⟩ : ∃ j, k = j + 1 := ⟨k - 1, by omega⟩
  exact h j (by omega)
theorem Ev.bind {α β : Type} {f : Nat → Option α} {g : Nat → α → Option β} {a : α} {b : β} (h : Ev f a) (h2 : Ev (fun k => g k a) b) : Ev (fun k => (f k).bind (g k)) b := by
  obtain ⟨K, h⟩ := h
  obtain ⟨K2, h2⟩ := h2
  refine ⟨max K K2, fun k hk => ?_⟩
  show (f k).bind (g k) = _
  rw [h k (by omega)]
  exact h2 k (by omega)
theorem Ev.pos {α : Type} {c : Prop} [Decidable c] {f g : Nat → Option α} {r : α} (hc : c) (h : Ev f r) : Ev (fun k => if c then f k else g k) r := by
  obtain ⟨K, h⟩ := h
  exact ⟨K, fun k hk => (if_pos hc).trans (h k hk)⟩
theorem Ev.neg {α : Type} {c : Prop} [Decidable c] {f g : Nat → Option α} {r : α} (hc : ¬ c) (h : Ev g r) : Ev (fun k => if c then f k else g k) r := by
  obtain ⟨K, h⟩ := h
  exact ⟨K, fun k hk => (if_neg hc).trans (h k hk)⟩
theorem Ev.some_of {α : Type} {f : Nat → Option α} {r : α} (h : Ev f r) : ∃ k, f k = some r := by
  obtain ⟨K, h⟩ := h
  exact ⟨K, h K (Nat.le_refl _)⟩

theorem w64 (n : Nat) (h : n < 9223372036854775808) : wrap64 (n : Int) = (n : Int) := by unfold wrap64; omega
theorem w64s (n : Nat) (h : n + 1 < 9223372036854775808) : wrap64 ((n : Int) + 1) = ((n + 1 : Nat) : Int) := by unfold wrap64; omega

/-- what stands from place i on -/
structure At (s : ByteArray) (i : Nat) (l : List UInt8) : Prop where mk :: (out : s.data.toList.drop i = l) (le : i ≤ s.size)
theorem At.zero (s : ByteArray) : At s 0 s.data.toList := ⟨rfl, Nat.zero_le _⟩
theorem size_l (s : ByteArray) : s.data.toList.length = s.size := by simp
theorem At.len {s : ByteArray} {i : Nat} {l : List UInt8} (h : At s i l) : i + l.length = s.size := by
  have := h.le
  rw [← h.out, List.length_drop, size_l]
  omega
theorem At.nil {s : ByteArray} {i : Nat} (h : At s i []) : i = s.size := by simpa using h.len
theorem At.tl {s : ByteArray} {i : Nat} {c : UInt8} {l : List UInt8} (h : At s i (c :: l)) : At s (i + 1) l := by
  refine ⟨?_, by have := h.len; simp at this; omega⟩
  rw [← List.drop_drop, h.out]
  rfl
theorem At.drop {s : ByteArray} {i : Nat} {l : List UInt8} (h : At s i l) (n : Nat) (hn : n ≤ l.length) : At s (i + n) (l.drop n) := by
  refine ⟨?_, by have := h.len; omega⟩
  rw [← List.drop_drop, h.out]
theorem At.bt {s : ByteArray} {i : Nat} {c : UInt8} {l : List UInt8} (h : At s i (c :: l)) : bt s (i : Int) = (c.toNat : Int) := by
  have hl := h.len
  simp only [List.length_cons] at hl
  have h1 : i < s.data.toList.length := by rw [size_l]; omega
  rw [bt_nat s i h1]
  have h2 : s.data.toList[i] :: s.data.toList.drop (i + 1) = c :: l := by rw [← h.out]; exact (List.drop_eq_getElem_cons h1).symm
  injection h2 with h3
  rw [h3]
theorem extract_l (s : ByteArray) (i j : Nat) : (s.extract i j).data.toList = (s.data.toList.take j).drop i := by
  simp [ByteArray.data_extract, Array.toList_extract, List.extract_eq_take_drop, List.drop_take]
theorem bytes_ext {a b : ByteArray} (h : a.data.toList = b.data.toList) : a = b := by
  apply ByteArray.ext
  exact Array.toList_inj.1 h
theorem At.extract {s : ByteArray} {i : Nat} {l : List UInt8} (h : At s i l) (n : Nat) : s.extract i (i + n) = ⟨(l.take n).toArray⟩ := by
  apply bytes_ext
  rw [extract_l, ← h.out]
  show _ = List.take n (List.drop i s.data.toList)
  rw [List.drop_take, Nat.add_sub_cancel_left]
theorem At.rest {s : ByteArray} {i : Nat} {l : List UInt8} (h : At s i l) : s.extract i s.size = ⟨l.toArray⟩ := by
  have h1 := h.extract l.length
  rw [h.len, List.take_length] at h1
  exact h1
theorem At.lt {s : ByteArray} {i : Nat} {c : UInt8} {l : List UInt8} (h : At s i (c :: l)) : (i : Int) < (s.size : Int) := by
  have := h.len
  simp only [List.length_cons] at this
  omega

/-! ### the document's small functions -/
theorem refletter_f (c : Int) : drogueref03_letter.f c = some (isLetB c) := by
  unfold drogueref03_letter.f isLetB
  by_cases h : 97 ≤ c
  · rw [if_pos h, decide_eq_true h, Bool.true_and]
  · rw [if_neg h, decide_eq_false h, Bool.false_and]
theorem refdigit_f (c : Int) : drogueref03_digit.f c = some (isDigB c) := by
  unfold drogueref03_digit.f isDigB
  by_cases h : 48 ≤ c
  · rw [if_pos h, decide_eq_true h, Bool.true_and]
  · rw [if_neg h, decide_eq_false h, Bool.false_and]

theorem find_ev (xs : List ByteArray) (s : ByteArray) (hx : xs.length < 9223372036854775807) : ∀ (n i : Nat), i + n = xs.length → ∃ r, Ev (fun k => drogueref00_Find.l0 k xs s (i : Int)) r ∧ decide (r ≥ 0) = (xs.drop i).any (fun x => s.toList == x.toList)
  | 0, i, hi => by
    refine ⟨-1, ?_, ?_⟩
    · refine Ev.step ?_
      simp only [drogueref00_Find.l0]
      exact Ev.neg (by omega) (Ev.pure _)
    · rw [List.drop_eq_nil_of_le (by omega)]
      rfl
  | n + 1, i, hi => by
    have hlt : i < xs.length := by omega
    have hd := List.drop_eq_getElem_cons hlt
    have hr : rdOf ByteArray.empty xs (i : Int) = xs[i] := by
      unfold rdOf
      simp [List.getD, hlt]
    by_cases he : xs[i].toList = s.toList
    · refine ⟨(i : Int), ?_, ?_⟩
      · refine Ev.step ?_
        simp only [drogueref00_Find.l0]
        rw [hr]
        exact Ev.pos (by omega) (Ev.pos (by omega) (Ev.pos he (Ev.pure _)))
      · rw [hd, List.any_cons, he]
        simp
    · obtain ⟨r, h1, h2⟩ := find_ev xs s hx n (i + 1) (by omega)
      refine ⟨r, ?_, ?_⟩
      · refine Ev.step ?_
        simp only [drogueref00_Find.l0]
        rw [hr, w64s i (by omega)]
        exact Ev.pos (by omega) (Ev.pos (by omega) (Ev.neg he h1))
      · rw [h2, hd, List.any_cons]
        have : (s.toList == xs[i].toList) = false := by
          simp only [beq_eq_false_iff_ne, ne_eq]
          exact fun e => he e.symm
        rw [this, Bool.false_or]
set_option maxRecDepth 100000 in
theorem refwords_f : drogueref03_Words.f = some wordsB := rfl
theorem refword_ev (s : ByteArray) : Ev (fun k => drogueref03_Word.f k s) (wordB s) := by
  obtain ⟨r, h1, h2⟩ := find_ev wordsB s (by decide) wordsB.length 0 (by omega)
  unfold drogueref03_Word.f drogueref00_Find.f
  refine Ev.bind (Ev.const refwords_f) ?_
  refine Ev.bind h1 ?_
  rw [h2]
  exact Ev.pure _
theorem sign_ev (s : ByteArray) (c : Int) (hx : s.size < 9223372036854775807) : ∀ (l : List UInt8) (i : Nat), At s i l → Ev (fun k => drogueref03_sign.l0 k c s (i : Int)) (l.any fun x => (x.toNat : Int) == c)
  | [], i, hi => by
    have := hi.nil
    refine Ev.step ?_
    simp only [drogueref03_sign.l0]
    exact Ev.neg (by omega) (Ev.pure _)
  | x :: l, i, hi => by
    have ih := sign_ev s c hx l (i + 1) hi.tl
    have hlt := hi.lt
    refine Ev.step ?_
    simp only [drogueref03_sign.l0]
    rw [hi.bt, w64s i (by have := hi.len; simp at this; omega), List.any_cons]
    refine Ev.pos hlt (Ev.pos (by omega) ?_)
    by_cases he : (x.toNat : Int) = c
    · refine Ev.pos he ?_
      have : ((x.toNat : Int) == c) = true := by simpa using he
      rw [this, Bool.true_or]
      exact Ev.pure _
    · refine Ev.neg he ?_
      have : ((x.toNat : Int) == c) = false := by simpa using he
      rw [this, Bool.false_or]
      exact ih
theorem refsign_ev (c : UInt8) : Ev (fun k => drogueref03_sign.f k (c.toNat : Int)) (signB c) := by
  have h := sign_ev (⟨#[123, 125, 40, 41, 59, 44, 46, 42, 58, 61]⟩ : ByteArray) (c.toNat : Int) (by decide) signsL 0 ⟨rfl, Nat.zero_le _⟩
  have e : signB c = signsL.any fun x => (x.toNat : Int) == (c.toNat : Int) := by
    unfold signB
    rw [List.contains_eq_any_beq]
    congr 1
    funext x
    rw [Bool.eq_iff_iff]
    simp only [beq_iff_eq]
    constructor
    · intro h
      rw [h]
    · intro h
      exact (UInt8.toNat_inj.1 (by omega))
  rw [e]
  exact h

/-! ### numbers -/
def isDig (c : UInt8) : Bool := isDigB (c.toNat : Int)
def valD (acc : Nat) : List UInt8 → Nat
  | [] => acc
  | c :: l => valD (acc * 10 + (c.toNat - 48)) l
theorem valD_le : ∀ (l : List UInt8) (acc : Nat), acc ≤ valD acc l
  | [], _ => Nat.le_refl _
  | c :: l, acc => by
    have := valD_le l (acc * 10 + (c.toNat - 48))
    unfold valD
    omega
theorem isDig_iff (c : UInt8) : isDig c = true ↔ 48 ≤ c.toNat ∧ c.toNat ≤ 57 := by
  unfold isDig isDigB
  simp only [Bool.and_eq_true, decide_eq_true_eq]
  omega
/-- the document's number, from a digit on -/
theorem number_ev (s : ByteArray) (neg : Bool) (hx : s.size < 9223372036854775807) (h0 : 0 < s.size) (hneg : decide (bt s 0 = 45) = neg) : ∀ (l : List UInt8) (i acc : Nat), At s i l → (∀ c ∈ l, isDig c = true) → acc ≤ 1099511627776 →
    Ev (fun k => drogueref03_number.l0 k s (acc : Int) (i : Int)) (if valD acc l ≤ 1099511627776 then (if neg then -(valD acc l : Int) else (valD acc l : Int), true) else (0, false))
  | [], i, acc, hi, _, ha => by
    have := hi.nil
    refine Ev.step ?_
    simp only [drogueref03_number.l0]
    refine Ev.neg (by omega) ?_
    refine Ev.pos (by omega) ?_
    unfold valD
    rw [if_pos ha]
    cases neg with
    | true =>
      refine Ev.pos (of_decide_eq_true hneg) ?_
      have : wrap64 (-(acc : Int)) = -(acc : Int) := by unfold wrap64; omega
      rw [this]
      exact Ev.pure _
    | false =>
      refine Ev.neg (of_decide_eq_false hneg) ?_
      exact Ev.pure _
  | c :: l, i, acc, hi, hd, ha => by
    have hc := (isDig_iff c).1 (hd c (List.mem_cons_self ..))
    have hlt := hi.lt
    have hl := hi.len
    simp only [List.length_cons] at hl
    refine Ev.step ?_
    simp only [drogueref03_number.l0]
    rw [hi.bt, w64s i (by omega)]
    refine Ev.pos hlt (Ev.pos (by omega) (Ev.neg (by omega) ?_))
    have e : wrap64 (wrap64 ((acc : Int) * 10) + (((c.toNat : Int) - 48) % 256)) = ((acc * 10 + (c.toNat - 48) : Nat) : Int) := by unfold wrap64; omega
    rw [e]
    unfold valD
    by_cases hb : acc * 10 + (c.toNat - 48) ≤ 1099511627776
    · refine Ev.neg (by omega) ?_
      exact number_ev s neg hx h0 hneg l (i + 1) _ hi.tl (fun x hx => hd x (List.mem_cons_of_mem _ hx)) hb
    · refine Ev.pos (by omega) ?_
      have := valD_le l (acc * 10 + (c.toNat - 48))
      rw [if_neg (by omega)]
      exact Ev.pure _
theorem refnum_dig (c : UInt8) (l : List UInt8) (hc : isDig c = true) (hd : ∀ x ∈ l, isDig x = true) (hs : l.length < 4611686018427387904) :
    Ev (fun k => drogueref03_number.f k ⟨(c :: l).toArray⟩) (if valD 0 (c :: l) ≤ 1099511627776 then ((valD 0 (c :: l) : Int), true) else (0, false)) := by
  have hc' := (isDig_iff c).1 hc
  have ha : At (⟨(c :: l).toArray⟩ : ByteArray) 0 (c :: l) := ⟨rfl, Nat.zero_le _⟩
  have hb : bt (⟨(c :: l).toArray⟩ : ByteArray) 0 = (c.toNat : Int) := ha.bt
  have hz : (⟨(c :: l).toArray⟩ : ByteArray).size = l.length + 1 := by have := ha.len; simp at this; omega
  exact number_ev _ false (by omega) (by omega) (by rw [hb]; exact decide_eq_false (by omega)) (c :: l) 0 0 ha (by simpa using ⟨hc, hd⟩) (by omega)
theorem refnum_neg (l : List UInt8) (hd : ∀ x ∈ l, isDig x = true) (hs : l.length < 4611686018427387904) :
    Ev (fun k => drogueref03_number.f k ⟨((45 : UInt8) :: l).toArray⟩) (if valD 0 l ≤ 1099511627776 then (-(valD 0 l : Int), true) else (0, false)) := by
  have ha : At (⟨((45 : UInt8) :: l).toArray⟩ : ByteArray) 0 (45 :: l) := ⟨rfl, Nat.zero_le _⟩
  have hb : bt (⟨((45 : UInt8) :: l).toArray⟩ : ByteArray) ((0 : Nat) : Int) = 45 := ha.bt
  have hz : (⟨((45 : UInt8) :: l).toArray⟩ : ByteArray).size = l.length + 1 := by have := ha.len; simp at this; omega
  have hlt := ha.lt
  unfold drogueref03_number.f
  refine Ev.step ?_
  simp only [drogueref03_number.l0]
  refine Ev.pos hlt (Ev.pos (by omega) (Ev.pos hb ?_))
  have h := number_ev _ true (by omega) (by omega) (by exact decide_eq_true hb) l 1 0 ha.tl hd (by omega)
  simp only [if_true] at h
  have hw : wrap64 (0 + 1) = ((1 : Nat) : Int) := w64s 0 (by omega)
  rw [hw]
  exact h

theorem parseU (l : List UInt8) : ∀ (acc : Nat), (∀ c ∈ l, isDig c = true) → Lib.parseUintM (2 ^ 64 - 1) acc l = .ok (valD acc l) ∨ (Lib.parseUintM (2 ^ 64 - 1) acc l = .range ∧ 1099511627776 < valD acc l) := by
  induction l with
  | nil => exact fun acc _ => Or.inl rfl
  | cons c l ih =>
    intro acc hd
    have hc := (isDig_iff c).1 (hd c (List.mem_cons_self ..))
    have h2 := ih (acc * 10 + (c.toNat - 48)) (fun x hx => hd x (List.mem_cons_of_mem _ hx))
    have hv := valD_le l (acc * 10 + (c.toNat - 48))
    unfold Lib.parseUintM valD
    rw [if_pos hc]
    split
    · right
      exact ⟨rfl, by omega⟩
    · split
      · right
        refine ⟨rfl, ?_⟩
        have : (1099511627776 : Nat) < 2 ^ 64 - 1 := by decide
        omega
      · exact h2
theorem parseI_dig (c : UInt8) (l : List UInt8) (hc : isDig c = true) (hd : ∀ x ∈ l, isDig x = true) :
    Lib.parseIntB 64 (c :: l) = .ok (valD 0 (c :: l) : Int) ∨ (Lib.parseIntB 64 (c :: l) = .range ∧ 1099511627776 < valD 0 (c :: l)) := by
  have hc' := (isDig_iff c).1 hc
  have hp := parseU (c :: l) 0 (by simpa using ⟨hc, hd⟩)
  have e43 : ¬ (c.toNat = 43 ∨ c.toNat = 45) := by omega
  have e45 : ¬ c.toNat = 45 := by omega
  unfold Lib.parseIntB Lib.parseUintB
  simp only [if_neg e43, List.cons_ne_nil, if_false]
  rcases hp with h | ⟨h, hv⟩
  · simp only [h]
    generalize valD 0 (c :: l) = v
    simp only [e45, not_false_eq_true, true_and, false_and, if_false]
    by_cases h3 : 2 ^ (64 - 1) ≤ v
    · rw [if_pos h3]
      right
      exact ⟨rfl, by have : (1099511627776 : Nat) < 2 ^ (64 - 1) := by decide
                     omega⟩
    · rw [if_neg h3]
      left
      rfl
  · simp only [h]
    right
    exact ⟨trivial, hv⟩
theorem parseI_neg (l : List UInt8) (hl : l ≠ []) (hd : ∀ x ∈ l, isDig x = true) :
    Lib.parseIntB 64 (45 :: l) = .ok (-(valD 0 l : Int)) ∨ (Lib.parseIntB 64 (45 :: l) = .range ∧ 1099511627776 < valD 0 l) := by
  have hp := parseU l 0 hd
  have e43 : ((45 : UInt8).toNat = 43 ∨ (45 : UInt8).toNat = 45) := Or.inr rfl
  have e45 : (45 : UInt8).toNat = 45 := rfl
  unfold Lib.parseIntB Lib.parseUintB
  simp only [if_pos e43, hl, if_false]
  rcases hp with h | ⟨h, hv⟩
  · simp only [h]
    generalize valD 0 l = v
    simp only [e45, not_true_eq_false, true_and, false_and, if_false, if_true]
    by_cases h3 : 2 ^ (64 - 1) < v
    · rw [if_pos h3]
      right
      exact ⟨rfl, by have : (1099511627776 : Nat) < 2 ^ (64 - 1) := by decide
                     omega⟩
    · rw [if_neg h3]
      left
      rfl
  · simp only [h]
    right
    exact ⟨trivial, hv⟩
theorem numF_dig (c : UInt8) (l : List UInt8) (hc : isDig c = true) (hd : ∀ x ∈ l, isDig x = true) :
    numF (c :: l) = (if valD 0 (c :: l) ≤ 1099511627776 then ((valD 0 (c :: l) : Int), true) else ((numF (c :: l)).1, false)) := by
  unfold numF
  rcases parseI_dig c l hc hd with h | ⟨h, hv⟩
  · simp only [h]
    generalize valD 0 (c :: l) = v
    by_cases hb : v ≤ 1099511627776
    · rw [if_pos hb, decide_eq_true (by omega), decide_eq_true (by omega)]
      rfl
    · rw [if_neg hb, decide_eq_false (show ¬ (v : Int) ≤ 1099511627776 by omega), Bool.and_false]
  · simp only [h]
    generalize valD 0 (c :: l) = v at *
    rw [if_neg (by omega)]
theorem numF_neg (l : List UInt8) (hl : l ≠ []) (hd : ∀ x ∈ l, isDig x = true) :
    numF (45 :: l) = (if valD 0 l ≤ 1099511627776 then (-(valD 0 l : Int), true) else ((numF (45 :: l)).1, false)) := by
  unfold numF
  rcases parseI_neg l hl hd with h | ⟨h, hv⟩
  · simp only [h]
    generalize valD 0 l = v
    by_cases hb : v ≤ 1099511627776
    · rw [if_pos hb, decide_eq_true (by omega), decide_eq_true (by omega)]
      rfl
    · rw [if_neg hb, decide_eq_false (show ¬ -1099511627776 ≤ -(v : Int) by omega), Bool.false_and]
  · simp only [h]
    generalize valD 0 l = v at *
    rw [if_neg (by omega)]
theorem numF_minus : (numF [45]).2 = false := rfl
end Go.Proofs.YtnlbbpandnpgoaaDoor.PL
