/- Plain law of layer 3: the program's Lex answers as the relation says. -/
import Derived.Test.YtnlbbpandnpgoaaDoorLexPure2
namespace Go.Proofs.YtnlbbpandnpgoaaDoor.PL
open Go.RowKit Go.Proofs.YtnlbbpandnpgoaaDoorW.PrintWords Go.Proofs.YtnlbbpandnpgoaaDoorW.PrintLast Go.Proofs.YtnlbbpandnpgoaaDoorW.PrintMore
set_option linter.unusedVariables false
set_option linter.unusedSimpArgs false

theorem take_all_dig (r : List UInt8) : ∀ x ∈ r.take (spanN isDigB r), isDig x = true := span_all isDigB r
theorem digs_dig {c : UInt8} {r : List UInt8} (h2 : c = 45 ∨ isDig c = true) : ∀ x ∈ digsOf c r, isDig x = true := by
  intro x hx
  unfold digsOf at hx
  split at hx
  · exact take_all_dig r x hx
  · rename_i h45
    have hc := h2.resolve_left h45
    rw [Nat.add_comm, List.take_succ_cons, List.mem_cons] at hx
    rcases hx with rfl | hx
    · exact hc
    · exact take_all_dig r x hx
theorem numF_digs (c : UInt8) (r : List UInt8) (h2 : c = 45 ∨ isDig c = true) :
    ((digsOf c r = [] ∨ 1099511627776 < valD 0 (digsOf c r)) → (numF ((c :: r).take (1 + spanN isDigB r))).2 = false) ∧
    (¬ (digsOf c r = [] ∨ 1099511627776 < valD 0 (digsOf c r)) → numF ((c :: r).take (1 + spanN isDigB r)) = (if c = 45 then -(valD 0 (digsOf c r) : Int) else (valD 0 (digsOf c r) : Int), true)) := by
  have hd := digs_dig (r := r) h2
  by_cases h45 : c = 45
  · subst h45
    have e : ((45 : UInt8) :: r).take (1 + spanN isDigB r) = 45 :: digsOf 45 r := by
      unfold digsOf
      rw [if_pos rfl, Nat.add_comm, List.take_succ_cons]
    rw [e]
    generalize digsOf 45 r = ds at *
    by_cases hn : ds = []
    · subst hn
      exact ⟨fun _ => numF_minus, fun h => absurd (Or.inl rfl) h⟩
    · have h := numF_neg ds hn hd
      by_cases hv : valD 0 ds ≤ 1099511627776
      · rw [if_pos hv] at h
        refine ⟨fun hh => ?_, fun _ => by rw [h, if_pos rfl]⟩
        rcases hh with hh | hh
        · exact absurd hh hn
        · omega
      · rw [if_neg hv] at h
        exact ⟨fun _ => by rw [h], fun hh => absurd (Or.inr (by omega)) hh⟩
  · have hc := h2.resolve_left h45
    have e0 : digsOf c r = c :: r.take (spanN isDigB r) := by
      unfold digsOf
      rw [if_neg h45, Nat.add_comm, List.take_succ_cons]
    have e : (c :: r).take (1 + spanN isDigB r) = digsOf c r := by
      unfold digsOf
      rw [if_neg h45]
    rw [e, e0]
    have h := numF_dig c (r.take (spanN isDigB r)) hc (take_all_dig r)
    generalize r.take (spanN isDigB r) = ds at *
    by_cases hv : valD 0 (c :: ds) ≤ 1099511627776
    · rw [if_pos hv] at h
      refine ⟨fun hh => ?_, fun _ => by rw [h, if_neg h45]⟩
      rcases hh with hh | hh
      · exact absurd hh (by simp)
      · omega
    · rw [if_neg hv] at h
      exact ⟨fun _ => by rw [h], fun hh => absurd (Or.inr (by omega)) hh⟩

theorem dig45 (c : UInt8) : (((c.toNat : Int) == 45 || isDigB (c.toNat : Int)) = true) ↔ (c = 45 ∨ isDig c = true) := by
  rw [Bool.or_eq_true]
  have e : ((c.toNat : Int) == 45) = true ↔ c = 45 := by
    rw [beq_iff_eq]
    constructor
    · intro h
      have h4 : c.toNat = 45 := by omega
      exact UInt8.toNat_inj.1 h4
    · rintro rfl
      rfl
  rw [e]
  exact Iff.rfl
theorem tokenF_of (s : ByteArray) (c : UInt8) (r : List UInt8) (hl : s.data.toList = c :: r) (hs : s.size ≤ 140737488351232) :
    (∀ k n v, tokB (c :: r) = some (k, n, v) → tokenF s = some (k, 0, ⟨((c :: r).take n).toArray⟩, v, true)) ∧ (tokB (c :: r) = none → ∃ k t v, tokenF s = some (k, 0, t, v, false)) := by
  have hx : ∀ n, s.extract 0 n = ⟨((c :: r).take n).toArray⟩ := by
    intro n
    have h := (At.zero s).extract n
    rw [Nat.zero_add, hl] at h
    exact h
  unfold tokenF
  rw [if_pos hs]
  split
  · rename_i h
    rw [hl] at h
    cases h
  · rename_i c' r' h
    rw [hl] at h
    injection h with h1 h2
    subst h1
    subst h2
    by_cases hc : isLetB (c.toNat : Int) = true
    · rw [if_pos hc, tokB_let hc]
      simp only [hx]
      by_cases h16 : spanN innerB (c :: r) ≤ 16
      · rw [if_pos h16]
        refine ⟨fun k n v h => ?_, fun h => by cases h⟩
        simp only [Option.some.injEq, Prod.mk.injEq] at h
        obtain ⟨rfl, rfl, rfl⟩ := h
        rw [decide_eq_true (by omega)]
      · rw [if_neg h16]
        refine ⟨(fun k n v h => by cases h), fun _ => ?_⟩
        rw [decide_eq_false (show ¬ ((spanN innerB (c :: r) : Nat) : Int) ≤ 16 by omega)]
        exact ⟨_, _, _, rfl⟩
    · rw [if_neg hc]
      by_cases h2 : c = 45 ∨ isDig c = true
      · rw [if_pos ((dig45 c).2 h2), tokB_num hc h2]
        simp only [hx]
        obtain ⟨n1, n2⟩ := numF_digs c r h2
        by_cases hb : digsOf c r = [] ∨ 1099511627776 < valD 0 (digsOf c r)
        · rw [if_pos hb]
          refine ⟨(fun k n v h => by cases h), fun _ => ⟨3, ⟨((c :: r).take (1 + spanN isDigB r)).toArray⟩, (numF ((c :: r).take (1 + spanN isDigB r))).1, ?_⟩⟩
          rw [n1 hb]
        · rw [if_neg hb]
          refine ⟨fun k n v h => ?_, fun h => by cases h⟩
          simp only [Option.some.injEq, Prod.mk.injEq] at h
          obtain ⟨rfl, rfl, rfl⟩ := h
          rw [n2 hb]
      · rw [if_neg (fun h => h2 ((dig45 c).1 h)), tokB_sign hc h2]
        simp only [hx]
        by_cases hg : signB c = true
        · rw [if_pos hg, if_pos hg]
          refine ⟨fun k n v h => ?_, fun h => by cases h⟩
          simp only [Option.some.injEq, Prod.mk.injEq] at h
          obtain ⟨rfl, rfl, rfl⟩ := h
          rfl
        · rw [if_neg hg, if_neg hg]
          exact ⟨(fun k n v h => by cases h), fun _ => ⟨_, _, _, rfl⟩⟩

/-- what Lex answers -/
def progR (acc : List S35) : Except Nat (List S35) → List S35 × Int × Int
  | .ok l => (acc ++ l, 0, 0)
  | .error p => ([], (p : Int), 1)
theorem progR_cons (acc : List S35) (t : S35) (R : Except Nat (List S35)) : progR (acc ++ [t]) R = progR acc (consR t R) := by
  cases R with
  | ok l => simp [progR, consR]
  | error p => rfl
theorem lexprog {i : Nat} {l : List UInt8} {R : Except Nat (List S35)} (h : Lexes i l R) : ∀ (s : ByteArray) (acc : List S35) (k : Nat), At s i l → s.size ≤ 16384 → acc.length + l.length ≤ 16384 → l.length + 1 ≤ k →
    lex_Lex.l0 k s acc ((i + skipS false l : Nat) : Int) = some (progR acc R) := by
  induction h with
  | nil i =>
    intro s acc k ha hs hk1 hk
    obtain ⟨k, rfl⟩ : ∃ j, k = j + 1 := ⟨k - 1, by omega⟩
    have := ha.nil
    have e : skipS false [] = 0 := by simp [skipS]
    rw [e, lex_Lex.l0, if_neg (by omega)]
    simp [progR]
  | @blank i c l R hb _ ih =>
    intro s acc k ha hs hk1 hk
    have e : skipS false (c :: l) = skipS false l + 1 := by rw [skipS, if_pos (show c = 32 ∨ c = 9 ∨ c = 10 from hb)]
    simp only [List.length_cons] at hk hk1
    rw [e, show i + (skipS false l + 1) = i + 1 + skipS false l by omega]
    exact ih s acc k ha.tl hs (by omega) (by omega)
  | @remark i l R _ ih =>
    intro s acc k ha hs hk1 hk
    have e : skipS false (35 :: l) = skipS true l + 1 := by rw [skipS, if_neg (by decide), if_pos rfl]
    simp only [List.length_cons] at hk hk1
    rw [e, skipS_remark, show i + (spanN notLF l + skipS false (l.drop (spanN notLF l)) + 1) = i + (spanN notLF l + 1) + skipS false (l.drop (spanN notLF l)) by omega]
    have h1 := spanN_le notLF l
    have ha2 := ha.tl.drop (spanN notLF l) h1
    rw [show i + 1 + spanN notLF l = i + (spanN notLF l + 1) by omega] at ha2
    exact ih s acc k ha2 hs (by simp only [List.length_drop]; omega) (by simp only [List.length_drop]; omega)
  | @bad i c l hb h35 ht =>
    intro s acc k ha hs hk1 hk
    have e : skipS false (c :: l) = 0 := by rw [skipS, if_neg (show ¬ (c = 32 ∨ c = 9 ∨ c = 10) from hb), if_neg h35]
    obtain ⟨k, rfl⟩ : ∃ j, k = j + 1 := ⟨k - 1, by omega⟩
    have hlt := ha.lt
    obtain ⟨k2, t2, v2, h2⟩ := (tokenF_of ⟨(c :: l).toArray⟩ c l rfl (by have := ha.len; show (c :: l).toArray.size ≤ _; simp at this ⊢; omega)).2 ht
    rw [e, lex_Lex.l0, Nat.add_zero, if_pos hlt, if_pos (by omega), if_pos (by omega), Int.toNat_natCast, ha.rest]
    unfold lex_token.f
    rw [h2]
    rfl
  | @tok i c l R k2 v m hb h35 ht hR ih =>
    intro s acc k ha hs hk1 hk
    have e : skipS false (c :: l) = 0 := by rw [skipS, if_neg (show ¬ (c = 32 ∨ c = 9 ∨ c = 10) from hb), if_neg h35]
    obtain ⟨k, rfl⟩ : ∃ j, k = j + 1 := ⟨k - 1, by omega⟩
    have hlt := ha.lt
    have hlen := ha.len
    simp only [List.length_cons] at hlen hk hk1
    have hm := (tokB_pos ht).2
    simp only [List.length_cons] at hm
    have h2 := (tokenF_of ⟨(c :: l).toArray⟩ c l rfl (by show (c :: l).toArray.size ≤ _; simp; omega)).1 _ _ _ ht
    rw [e, lex_Lex.l0, Nat.add_zero, if_pos hlt, if_pos (by omega), if_pos (by omega), Int.toNat_natCast, ha.rest]
    unfold lex_token.f
    rw [h2]
    have ha2 := ha.tl.drop m (by omega)
    rw [show i + 1 + m = i + (m + 1) by omega] at ha2
    have hz : (⟨((c :: l).take (m + 1)).toArray⟩ : ByteArray).size = m + 1 := by
      show ((c :: l).take (m + 1)).toArray.size = _
      simp
      omega
    have hw : wrap64 ((i : Int) + ((m + 1 : Nat) : Int)) = ((i + (m + 1) : Nat) : Int) := by unfold wrap64; omega
    simp only [Option.bind_some, if_true, hz, hw]
    rw [if_pos (by omega), if_pos (by omega), if_pos (by omega), Int.toNat_natCast, ha2.rest]
    unfold lex_skip.f
    rw [if_pos (by show (l.drop m).toArray.size ≤ _; simp; omega)]
    have hsk := skipS_le false (l.drop m)
    simp only [List.length_drop] at hsk
    have hw2 : wrap64 (((i + (m + 1) : Nat) : Int) + (skipS false (l.drop m) : Int)) = ((i + (m + 1) + skipS false (l.drop m) : Nat) : Int) := by unfold wrap64; omega
    simp only [Option.bind_some, hw2]
    rw [← progR_cons]
    exact ih s _ k ha2 hs (by simp only [List.length_append, List.length_cons, List.length_nil, List.length_drop]; omega) (by simp only [List.length_drop]; omega)
/-- the program's Lex at any text that is not too long -/
theorem lex_of {s : ByteArray} {R : Except Nat (List S35)} (hs : s.size ≤ 16384) (h : Lexes 0 s.data.toList R) : lex_Lex.f s = some (progR [] R) := by
  unfold lex_Lex.f lex_Lex.g lex_skip.f
  rw [if_neg (by omega), if_pos (by omega)]
  have h2 := lexprog h s [] (s.size + 2) (At.zero s) hs (by rw [size_l]; simpa using hs) (by rw [size_l]; omega)
  rw [Nat.zero_add] at h2
  exact h2
theorem lex_long {s : ByteArray} (hs : 16384 < s.size) : lex_Lex.f s = some ([], 16384, 3) := by
  unfold lex_Lex.f lex_Lex.g
  rw [if_pos (by omega)]
end Go.Proofs.YtnlbbpandnpgoaaDoor.PL
