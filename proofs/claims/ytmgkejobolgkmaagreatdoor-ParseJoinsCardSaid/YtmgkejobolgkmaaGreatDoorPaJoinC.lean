/- Lexing in plain words: two texts with a line feed between; tokens with blanks and remarks between; up to places. Lexing in plain words: what Lex answers of any text; texts compared. Package parse, in plain words: tokens without places are parsed alike; of tokens of two programs, one behind the other, is the program of both. Package parse, in plain words: of tokens of two programs, one behind the other, is the program of both. -/
import Derived.Test.YtmgkejobolgkmaaGreatDoorPaSimC
namespace Go.Proofs.YtmgkejobolgkmaaGreatDoor.PL
section
open Go.RowKit Go.Proofs.YtmgkejobolgkmaaGreatDoorW.PrintWords Go.Proofs.YtmgkejobolgkmaaGreatDoorW.PrintLast Go.Proofs.YtmgkejobolgkmaaGreatDoorW.PrintMore
set_option linter.unusedVariables false
set_option linter.unusedSimpArgs false

/-- a token without its place -/
def tok0 (t : Tok) : Tok := ⟨t.f0, 0, t.f2, t.f3⟩
theorem span_cut (p : Int → Bool) (b : UInt8) (hp : p (b.toNat : Int) = false) (r : List UInt8) : ∀ (l : List UInt8), spanN p (l ++ b :: r) = spanN p l
  | [] => by
    rw [List.nil_append, spanN_cons, if_neg]
    · rfl
    · rw [hp]
      decide
  | c :: l => by rw [List.cons_append, spanN_cons, spanN_cons, span_cut p b hp r l]
theorem take_cut {l r : List UInt8} {n : Nat} {b : UInt8} (h : n ≤ l.length) : (l ++ b :: r).take n = l.take n := List.take_append_of_le_length h
theorem drop_cut {l r : List UInt8} {n : Nat} {b : UInt8} (h : n ≤ l.length) : (l ++ b :: r).drop n = l.drop n ++ b :: r := List.drop_append_of_le_length h
theorem tokB_cut (b : UInt8) (h1 : innerB (b.toNat : Int) = false) (h3 : isDigB (b.toNat : Int) = false) (c : UInt8) (l r : List UInt8) : tokB (c :: (l ++ b :: r)) = tokB (c :: l) := by
  by_cases hc : isLetB (c.toNat : Int) = true
  · have hs := span_cut innerB b h1 r (c :: l)
    have ht := take_cut (r := r) (b := b) (spanN_le innerB (c :: l))
    rw [List.cons_append] at hs ht
    rw [tokB_let hc, tokB_let hc, hs, ht]
  · by_cases h2 : c = 45 ∨ isDig c = true
    · have hs := span_cut isDigB b h3 r l
      have hd : digsOf c (l ++ b :: r) = digsOf c l := by
        unfold digsOf
        rw [hs, take_cut (spanN_le isDigB l), Nat.add_comm, List.take_succ_cons, List.take_succ_cons, take_cut (spanN_le isDigB l)]
      rw [tokB_num hc h2, tokB_num hc h2, hs, hd]
    · rw [tokB_sign hc h2, tokB_sign hc h2]
theorem Lexes.cut_ok {i : Nat} {l : List UInt8} {R : Except Nat (List Tok)} (h : Lexes i l R) : ∀ ts, R = .ok ts → ∀ r us, Lexes (i + l.length + 1) r (.ok us) → Lexes i (l ++ 10 :: r) (.ok (ts ++ us)) := by
  induction h with
  | nil i =>
    intro ts hp r R2 h2
    injection hp with hp
    subst hp
    exact .blank (Or.inr (Or.inr rfl)) h2
  | @blank i c l R hb _ ih =>
    intro ts hp r R2 h2
    refine .blank hb (ih ts hp r R2 ?_)
    rw [List.length_cons] at h2
    rw [show i + 1 + l.length + 1 = i + (l.length + 1) + 1 by omega]
    exact h2
  | @remark i l R _ ih =>
    intro ts hp r R2 h2
    have hle := spanN_le notLF l
    rw [List.cons_append]
    refine .remark ?_
    rw [span_cut notLF 10 rfl, drop_cut hle]
    refine ih ts hp r R2 ?_
    rw [List.length_cons] at h2
    rw [List.length_drop, show i + (spanN notLF l + 1) + (l.length - spanN notLF l) + 1 = i + (l.length + 1) + 1 by omega]
    exact h2
  | @bad i c l hb h35 ht => intro ts hp; cases hp
  | @tok i c l R k2 v m hb h35 ht hR2 ih =>
    intro ts hp r R2 h2
    cases R with
    | error q => cases hp
    | ok l2 =>
      unfold consR at hp
      injection hp with hp
      subst hp
      have hm := (tokB_pos ht).2
      simp only [List.length_cons] at hm h2
      have hx : (c :: (l ++ 10 :: r)).take (m + 1) = (c :: l).take (m + 1) := by rw [← List.cons_append, take_cut (by simp only [List.length_cons]; omega)]
      rw [List.cons_append]
      have := Lexes.tok (i := i) (c := c) (l := l ++ 10 :: r) (m := m) (R := .ok (l2 ++ R2)) hb h35 (by rw [tokB_cut 10 rfl rfl]; exact ht) (by
        rw [drop_cut (by omega)]
        refine ih l2 rfl r R2 ?_
        rw [List.length_drop, show i + (m + 1) + (l.length - m) + 1 = i + (l.length + 1) + 1 by omega]
        exact h2)
      rw [hx] at this
      exact this
/-- the same text at another place -/
theorem Lexes.move {i : Nat} {l : List UInt8} {R : Except Nat (List Tok)} (h : Lexes i l R) : ∀ ts, R = .ok ts → ∀ j, ∃ us, Lexes j l (.ok us) ∧ us.map tok0 = ts.map tok0 := by
  induction h with
  | nil i =>
    intro ts hp j
    injection hp with hp
    subst hp
    exact ⟨[], .nil j, rfl⟩
  | @blank i c l R hb _ ih =>
    intro ts hp j
    obtain ⟨us, h1, h2⟩ := ih ts hp (j + 1)
    exact ⟨us, .blank hb h1, h2⟩
  | @remark i l R _ ih =>
    intro ts hp j
    obtain ⟨us, h1, h2⟩ := ih ts hp (j + (spanN notLF l + 1))
    exact ⟨us, .remark h1, h2⟩
  | @bad i c l hb h35 ht => intro ts hp; cases hp
  | @tok i c l R k2 v m hb h35 ht hR2 ih =>
    intro ts hp j
    cases R with
    | error q => cases hp
    | ok l2 =>
      unfold consR at hp
      injection hp with hp
      subst hp
      obtain ⟨us, h1, h2⟩ := ih l2 rfl (j + (m + 1))
      exact ⟨_ :: us, .tok (R := .ok us) hb h35 ht h1, by rw [List.map_cons, List.map_cons, h2]; rfl⟩
/-- what stands between two tokens -/
def gapL (k : Nat) : List UInt8 :=
  if k % 4 = 0 then [32] else if k % 4 = 1 then [10, 35, 32, 97, 32, 114, 101, 109, 97, 114, 107, 32, 59, 32, 123, 10] else if k % 4 = 2 then [9, 32, 10] else [32, 35, 10]
theorem gap_lex (k j : Nat) (r : List UInt8) (R : Except Nat (List Tok)) (h : Lexes (j + (gapL k).length) r R) : Lexes j (gapL k ++ r) R := by
  unfold gapL at h ⊢
  split at h
  · rw [if_pos (by assumption)]
    exact .blank (.inl rfl) h
  · rw [if_neg (by assumption)]
    split at h
    · rw [if_pos (by assumption)]
      refine .blank (.inr (.inr rfl)) ?_
      have hs := span_cut notLF 10 rfl r [32, 97, 32, 114, 101, 109, 97, 114, 107, 32, 59, 32, 123]
      have hn : spanN notLF [32, 97, 32, 114, 101, 109, 97, 114, 107, 32, 59, 32, 123] = 13 := by decide
      rw [hn] at hs
      refine Lexes.remark (l := [32, 97, 32, 114, 101, 109, 97, 114, 107, 32, 59, 32, 123] ++ 10 :: r) ?_
      rw [hs]
      exact .blank (.inr (.inr rfl)) h
    · rw [if_neg (by assumption)]
      split at h
      · rw [if_pos (by assumption)]
        exact .blank (.inr (.inl rfl)) (.blank (.inl rfl) (.blank (.inr (.inr rfl)) h))
      · rw [if_neg (by assumption)]
        refine .blank (.inl rfl) ?_
        have hs := span_cut notLF 10 rfl r []
        have hn : spanN notLF [] = 0 := by decide
        rw [hn] at hs
        refine Lexes.remark (l := [] ++ 10 :: r) ?_
        rw [hs]
        exact .blank (.inr (.inr rfl)) h
theorem gap_head (k : Nat) : ∃ b g, gapL k = b :: g ∧ innerB (b.toNat : Int) = false ∧ isDigB (b.toNat : Int) = false := by
  unfold gapL
  split
  · exact ⟨_, _, rfl, rfl, rfl⟩
  · split
    · exact ⟨_, _, rfl, rfl, rfl⟩
    · split
      · exact ⟨_, _, rfl, rfl, rfl⟩
      · exact ⟨_, _, rfl, rfl, rfl⟩
theorem gap_len (k : Nat) : (gapL k).length ≤ 16 := by
  unfold gapL
  split
  · decide
  · split
    · decide
    · split <;> decide
/-- the tokens' texts with gaps between -/
def wideL : List Tok → Nat → List UInt8
  | [], _ => []
  | t :: ts, k => t.f2.data.toList ++ (gapL k ++ wideL ts (k + 1))
theorem Lexes.wide {i : Nat} {l : List UInt8} {R : Except Nat (List Tok)} (h : Lexes i l R) : ∀ ts, R = .ok ts → ∀ k j, ∃ us, Lexes j (wideL ts k) (.ok us) ∧ us.map tok0 = ts.map tok0 := by
  induction h with
  | nil i =>
    intro ts hp k j
    injection hp with hp
    subst hp
    exact ⟨[], .nil j, rfl⟩
  | @blank i c l R hb _ ih =>
    intro ts hp k j
    exact ih ts hp k j
  | @remark i l R _ ih =>
    intro ts hp k j
    exact ih ts hp k j
  | @bad i c l hb h35 ht => intro ts hp; cases hp
  | @tok i c l R k2 v m hb h35 ht hR2 ih =>
    intro ts hp k j
    cases R with
    | error q => cases hp
    | ok l2 =>
      unfold consR at hp
      injection hp with hp
      subst hp
      obtain ⟨us, h1, h2⟩ := ih l2 rfl (k + 1) (j + (m + 1) + (gapL k).length)
      have h3 := gap_lex k (j + (m + 1)) _ _ h1
      obtain ⟨b, g, eg, hb1, hb2⟩ := gap_head k
      have hm := (tokB_pos ht).2
      simp only [List.length_cons] at hm
      have ht2 := tokB_take ht 0
      rw [Nat.add_zero] at ht2
      have hl : (l.take m).length = m := by rw [List.length_take]; omega
      have h4 := Lexes.tok (i := j) (c := c) (l := l.take m ++ (gapL k ++ wideL l2 (k + 1))) (m := m) (R := .ok us) hb h35 (by rw [eg, List.cons_append, tokB_cut b hb1 hb2]; exact ht2) (by rw [List.drop_append_of_le_length (by omega), List.drop_of_length_le (by omega), List.nil_append]; exact h3)
      have e : (c :: (l.take m ++ (gapL k ++ wideL l2 (k + 1)))).take (m + 1) = (c :: l).take (m + 1) := by
        rw [List.take_succ_cons, List.take_succ_cons, List.take_left' hl]
      rw [e] at h4
      refine ⟨⟨k2, (j : Int), ⟨((c :: l).take (m + 1)).toArray⟩, v⟩ :: us, ?_, by rw [List.map_cons, List.map_cons, h2]; rfl⟩
      show Lexes j (((c :: l).take (m + 1)) ++ (gapL k ++ wideL l2 (k + 1))) _
      rw [List.take_succ_cons, List.cons_append]
      exact h4
def gapB (k : Nat) : ByteArray := ⟨(gapL k).toArray⟩
def wideB : List Tok → Nat → ByteArray → ByteArray
  | [], _, acc => acc
  | t :: ts, k, acc => wideB ts (k + 1) (acc ++ (t.f2 ++ gapB k))
theorem wideB_list : ∀ (ts : List Tok) (k : Nat) (acc : ByteArray), (wideB ts k acc).data.toList = acc.data.toList ++ wideL ts k
  | [], k, acc => by simp [wideB, wideL]
  | t :: ts, k, acc => by
    unfold wideB wideL
    rw [wideB_list ts (k + 1)]
    simp [ByteArray.data_append, gapB]
theorem gapB_size (k : Nat) : (gapB k).size ≤ 16 := by
  have := gap_len k
  show (gapL k).toArray.size ≤ 16
  rw [List.size_toArray]
  exact this
end
section
open Go Go.RowKit Go.Proofs.YtmgkejobolgkmaaGreatDoorW.PrintWords Go.Proofs.YtmgkejobolgkmaaGreatDoorW.PrintLast Go.Proofs.YtmgkejobolgkmaaGreatDoorW.PrintMore
set_option linter.unusedVariables false
set_option linter.unusedSimpArgs false

/-- what Lex answers of any text -/
theorem lexF (s : ByteArray) : ∃ l d1 d2, lex_Lex.f s = some (l, d1, d2) ∧ Rd.Ok ⟨l, s.size, -1, -1⟩ ∧ (d2 = 0 → s.size ≤ 16384 ∧ Lexes 0 s.data.toList (.ok l)) := by
  by_cases hs : s.size ≤ 16384
  · obtain ⟨R, hR⟩ := Lexes.total _ s.data.toList 0 (Nat.le_refl _)
    cases R with
    | ok l =>
      refine ⟨l, 0, 0, by rw [lex_of hs hR]; rfl, ⟨?_, fun t ht => ?_, ?_, .inl rfl⟩, fun _ => ⟨hs, hR⟩⟩
      · have := hR.count
        rw [size_l] at this
        show l.length ≤ 100000
        omega
      · obtain ⟨h1, h2, -⟩ := hR.like l rfl t ht
        rw [size_l] at h1
        exact ⟨by omega, by simpa using h2⟩
      · show (0 : Int) ≤ (s.size : Int)
        omega
    | error p =>
      refine ⟨[], p, 1, by rw [lex_of hs hR]; rfl, ⟨Nat.zero_le _, (fun t ht => by cases ht), ?_, .inl rfl⟩, fun e => by cases e⟩
      show (0 : Int) ≤ (s.size : Int)
      omega
  · refine ⟨[], 16384, 3, lex_long (by omega), ⟨Nat.zero_le _, (fun t ht => by cases ht), ?_, .inl rfl⟩, fun e => by cases e⟩
    show (0 : Int) ≤ (s.size : Int)
    omega
theorem txt_true {s : ByteArray} {l : List UInt8} (h : s = ⟨l.toArray⟩) : (s.toList == l) = true := by
  rw [h, ByteArray.toList_eq]
  exact beq_self_eq_true l
theorem txt_false {s : ByteArray} {l : List UInt8} (h : s ≠ ⟨l.toArray⟩) : (s.toList == l) = false := by
  rw [beq_eq_false_iff_ne, ByteArray.toList_eq]
  intro e
  exact h (bytes_ext (by rw [e]))
/-- what Lex answers of a text whose tokens are known -/
theorem lex_known {s : ByteArray} {l : List Tok} (hs : s.size ≤ 16384) (h : Lexes 0 s.data.toList (.ok l)) : lex_Lex.f s = some (l, 0, 0) ∧ Rd.Ok ⟨l, s.size, -1, -1⟩ := by
  refine ⟨by rw [lex_of hs h]; rfl, ?_, fun t ht => ?_, ?_, .inl rfl⟩
  · have := h.count
    rw [size_l] at this
    show l.length ≤ 100000
    omega
  · obtain ⟨h1, h2, -⟩ := h.like l rfl t ht
    rw [size_l] at h1
    exact ⟨by omega, by simpa using h2⟩
  · show (0 : Int) ≤ (s.size : Int)
    omega
/-- both texts, as one -/
def cutText (a b : ByteArray) : ByteArray := (a ++ (⟨#[10]⟩ : ByteArray)) ++ b
theorem cutText_list (a b : ByteArray) : (cutText a b).data.toList = a.data.toList ++ 10 :: b.data.toList := by
  unfold cutText
  simp [ByteArray.data_append]
theorem cutText_size (a b : ByteArray) : (cutText a b).size = a.size + 1 + b.size := by
  unfold cutText
  rw [ByteArray.size_append, ByteArray.size_append]
  rfl
/-- the tokens of two texts with a line feed between -/
theorem lex_join {a b : ByteArray} {la lb : List Tok} (hs : a.size + 1 + b.size ≤ 16384) (ha : Lexes 0 a.data.toList (.ok la)) (hb : Lexes 0 b.data.toList (.ok lb)) :
    ∃ lj, lex_Lex.f (cutText a b) = some (lj, 0, 0) ∧ Rd.Ok ⟨lj, (cutText a b).size, -1, -1⟩ ∧ lj.map tok0 = la.map tok0 ++ lb.map tok0 := by
  obtain ⟨us, h1, h2⟩ := hb.move lb rfl (0 + a.data.toList.length + 1)
  have h3 := ha.cut_ok la rfl _ us h1
  rw [← cutText_list] at h3
  obtain ⟨h4, h5⟩ := lex_known (s := cutText a b) (by rw [cutText_size]; exact hs) h3
  exact ⟨la ++ us, h4, h5, by rw [List.map_append, h2]⟩
/-- the tokens of a text's tokens with gaps between -/
theorem lex_wide {a : ByteArray} {la : List Tok} (ha : Lexes 0 a.data.toList (.ok la)) (hs : (wideB la 0 ⟨#[]⟩).size ≤ 16384) :
    ∃ lj, lex_Lex.f (wideB la 0 ⟨#[]⟩) = some (lj, 0, 0) ∧ Rd.Ok ⟨lj, (wideB la 0 ⟨#[]⟩).size, -1, -1⟩ ∧ lj.map tok0 = la.map tok0 := by
  obtain ⟨us, h1, h2⟩ := ha.wide la rfl 0 0
  have h3 : (wideB la 0 ⟨#[]⟩).data.toList = wideL la 0 := by
    rw [wideB_list]
    rfl
  rw [← h3] at h1
  obtain ⟨h4, h5⟩ := lex_known hs h1
  exact ⟨us, h4, h5, h2⟩
end
section
open Go Go.RowKit Go.Proofs.YtmgkejobolgkmaaGreatDoorW.PrintWords Go.Proofs.YtmgkejobolgkmaaGreatDoorW.PrintLast Go.Proofs.YtmgkejobolgkmaaGreatDoorW.PrintMore
set_option linter.unusedVariables false
set_option linter.unusedSimpArgs false

/-- a reader, and one of the same tokens without places -/
structure R5 (s t : Rd) : Prop where mk ::
  (toks : t.toks = s.toks.map tok0) (fin : t.fin = 0) (bad : t.bad = -1 ↔ s.bad = -1) (bad0 : t.bad = -1 ∨ t.bad = 0) (much : t.much = -1 ↔ s.much = -1) (ok : s.Ok)
theorem R5.at0 {s t : Rd} (h : R5 s t) : t.at_ = 0 := by
  unfold Rd.at_
  rw [h.toks]
  cases s.toks with
  | nil => exact h.fin
  | cons x l => rfl
theorem R5.next {s t : Rd} (h : R5 s t) {p : Tok → Bool} (hp : ∀ x, p (tok0 x) = p x) : t.next p = s.next p := by
  unfold Rd.next
  rw [h.toks]
  have e : decide (t.bad = -1) = decide (s.bad = -1) := decide_eq_decide.2 h.bad
  rw [e]
  cases s.toks with
  | nil => rfl
  | cons x l => show (_ && p (tok0 x)) = _; rw [hp]
theorem more_much (s : Rd) (c : Bool) {a : Int} (ha : a ≠ -1) : (s.more c a).much = -1 ↔ s.much = -1 ∧ c = false := by
  unfold Rd.more
  cases c with
  | false => simp
  | true =>
    rw [Bool.true_and]
    by_cases hm : s.much = -1
    · rw [decide_eq_true hm, Bool.true_or, if_pos rfl]
      simp [ha]
    · split
      · simp [ha]
      · simp [hm]
theorem more_eq (s : Rd) (c : Bool) (a : Int) : (s.more c a).toks = s.toks ∧ (s.more c a).fin = s.fin ∧ (s.more c a).bad = s.bad := by
  unfold Rd.more
  split <;> exact ⟨rfl, rfl, rfl⟩
theorem sim5 : Sim (fun _ => 0) (fun a => 0 ≤ a) (fun p => ∀ x, p (tok0 x) = p x) R5 (fun _ _ => False) where
  xl t := constC False
  xr s := constC False
  bad h := h.bad
  at_ h := ⟨h.at0, h.ok.at_⟩
  next h hp := h.next hp
  tl {s t p} h hp hn := by
    have hne : s.toks ≠ [] := Rd.next_ne hn
    have h2 := okC.tl h.ok hne
    cases hs : s.toks with
    | nil => exact absurd hs hne
    | cons x l =>
      have ht : t.toks = tok0 x :: l.map tok0 := by rw [h.toks, hs]; rfl
      refine ⟨?_, .inr ⟨?_, h.fin, h.bad, h.bad0, h.much, h2⟩⟩
      · unfold Rd.hd
        rw [hs, ht]
        exact ⟨rfl, rfl, rfl⟩
      · simp [Rd.tl, hs, ht]
  fail {s t} h := by
    refine .inr ⟨rfl, ?_, ?_, ?_, h.much, okC.fail h.ok⟩
    · show (if t.bad = -1 then t.at_ else t.bad) = 0
      rw [h.at0]
      split
      · rfl
      · exact h.bad0.resolve_left (by assumption)
    · have h1 : t.fail.bad ≠ -1 := by
        show (if t.bad = -1 then t.at_ else t.bad) ≠ -1
        rw [h.at0]
        split
        · decide
        · assumption
      exact ⟨fun e => absurd e h1, fun e => absurd e (Rd.fail_bad h.ok)⟩
    · show (if t.bad = -1 then t.at_ else t.bad) = -1 ∨ (if t.bad = -1 then t.at_ else t.bad) = 0
      rw [h.at0]
      split
      · exact .inr rfl
      · exact h.bad0
  more {s t a} c h ha := by
    obtain ⟨e1, e2, e3⟩ := more_eq s c a
    obtain ⟨g1, g2, g3⟩ := more_eq t c 0
    refine .inr ⟨by rw [e1, g1]; exact h.toks, by rw [g2]; exact h.fin, by rw [e3, g3]; exact h.bad, by rw [g3]; exact h.bad0, ?_, okC.more c a h.ok⟩
    rw [more_much s c (by omega), more_much t c (by decide), h.much]
  named _ := rfl
  num _ := rfl
  made _ := rfl
  ends _ := rfl
  sees _ _ _ := rfl
  rm _ := rfl
def comb (P Q : SProg) : SProg := ⟨P.f0 ++ Q.f0, P.f1 ++ Q.f1, P.f2 ++ Q.f2⟩
/-- no list of declarations is longer -/
def Within (n : Nat) (P : SProg) : Prop := P.f0.length ≤ n ∧ P.f1.length ≤ n ∧ P.f2.length ≤ n
theorem prog_mono : ∀ (k : Nat) (s : Rd) (P : SProg), P.f0.length ≤ (Rd.program k s P).1.f0.length ∧ P.f1.length ≤ (Rd.program k s P).1.f1.length ∧ P.f2.length ≤ (Rd.program k s P).1.f2.length
  | 0, s, P => ⟨Nat.le_refl _, Nat.le_refl _, Nat.le_refl _⟩
  | k + 1, s, P => by
    unfold Rd.program
    simp only
    split
    · split
      · have h := prog_mono k (s.limit P.f0.length 16).structure.2 ⟨P.f0 ++ [(s.limit P.f0.length 16).structure.1], P.f1, P.f2⟩
        simp only [List.length_append, List.length_singleton] at h
        exact ⟨by omega, h.2.1, h.2.2⟩
      · split
        · have h := prog_mono k (s.limit P.f1.length 16).enum.2 ⟨P.f0, P.f1 ++ [(s.limit P.f1.length 16).enum.1], P.f2⟩
          simp only [List.length_append, List.length_singleton] at h
          exact ⟨h.1, by omega, h.2.2⟩
        · split
          · have h := prog_mono k (s.limit P.f2.length 16).function.2 ⟨P.f0, P.f1, P.f2 ++ [(s.limit P.f2.length 16).function.1]⟩
            simp only [List.length_append, List.length_singleton] at h
            exact ⟨h.1, h.2.1, by omega⟩
          · exact prog_mono k _ _
    · exact ⟨Nat.le_refl _, Nat.le_refl _, Nat.le_refl _⟩
/-- two readers in step, one with declarations already: what is read is the same -/
theorem u_prog {g : Int → Int} {D : Int → Prop} {Pd : (Tok → Bool) → Prop} {R : Rd → Rd → Prop} {K : Prop} (h : Sim g D Pd R (fun _ _ => False)) (h3 : Pd (seesP [⟨#[115, 116, 114, 117, 99, 116]⟩]) ∧ Pd (seesP [⟨#[101, 110, 117, 109]⟩]) ∧ Pd (seesP [⟨#[102, 110]⟩]))
    (hne : ∀ {s t}, R s t → (t.toks = [] ↔ s.toks = [])) (P0 : SProg)
    (hl0 : ∀ {s t} (m : Nat), R s t → (K → P0.f0.length + m < 16) → R (s.limit m 16) (t.limit ((P0.f0.length + m : Nat) : Int) 16))
    (hl1 : ∀ {s t} (m : Nat), R s t → (K → P0.f1.length + m < 16) → R (s.limit m 16) (t.limit ((P0.f1.length + m : Nat) : Int) 16))
    (hl2 : ∀ {s t} (m : Nat), R s t → (K → P0.f2.length + m < 16) → R (s.limit m 16) (t.limit ((P0.f2.length + m : Nat) : Int) 16)) :
    ∀ (k : Nat) (s t : Rd) (P : SProg), R s t → (K → Within 16 (comb P0 (Rd.program k s P).1)) →
      (Rd.program k t (comb P0 (atProg g P))).1 = comb P0 (atProg g (Rd.program k s P).1) ∧ R (Rd.program k s P).2 (Rd.program k t (comb P0 (atProg g P))).2
  | 0, s, t, P, r, hK => ⟨rfl, r⟩
  | k + 1, s, t, P, r, hK => by
    have IH := u_prog h h3 hne P0 hl0 hl1 hl2 k
    unfold Rd.program at hK ⊢
    simp only at hK ⊢
    have hc : (t.bad = -1 ∧ t.toks ≠ []) ↔ (s.bad = -1 ∧ s.toks ≠ []) := by rw [h.bad r, ne_eq, hne r]
    by_cases hs : s.bad = -1 ∧ s.toks ≠ []
    · have ht := hc.2 hs
      rw [if_pos hs] at hK
      rw [if_pos hs, if_pos ht]
      have e1 : t.sees [⟨#[115, 116, 114, 117, 99, 116]⟩] = s.sees [⟨#[115, 116, 114, 117, 99, 116]⟩] := h.next r h3.1
      have e2 : t.sees [⟨#[101, 110, 117, 109]⟩] = s.sees [⟨#[101, 110, 117, 109]⟩] := h.next r h3.2.1
      have e3 : t.sees [⟨#[102, 110]⟩] = s.sees [⟨#[102, 110]⟩] := h.next r h3.2.2
      rw [e1, e2, e3]
      by_cases g1 : s.sees [⟨#[115, 116, 114, 117, 99, 116]⟩] = true
      · rw [if_pos g1] at hK
        rw [if_pos g1, if_pos g1]
        have em : (comb P0 (atProg g P)).f0.length = P0.f0.length + P.f0.length := by simp [comb, atProg]
        rw [em]
        have r0 := hl0 P.f0.length r (fun hk => by
          have a := (hK hk).1
          have b := (prog_mono k (s.limit P.f0.length 16).structure.2 ⟨P.f0 ++ [(s.limit P.f0.length 16).structure.1], P.f1, P.f2⟩).1
          simp only [comb, List.length_append, List.length_singleton] at a b
          omega)
        have u1 := h.u_must (l := [⟨#[115, 116, 114, 117, 99, 116]⟩]) (C := True) (.inr ⟨r0, trivial⟩) (fun y hy => by rw [List.mem_singleton.1 hy]; exact h3.1)
        obtain ⟨r2, -, e⟩ := (h.u_structure1 u1 (fun _ => (h.at_ r0).1)).resolve_left id
        have e' : (t.limit ((P0.f0.length + P.f0.length : Nat) : Int) 16).structure.1 = atStruct g (s.limit P.f0.length 16).structure.1 := e
        have hcmb : (⟨(comb P0 (atProg g P)).f0 ++ [(t.limit ((P0.f0.length + P.f0.length : Nat) : Int) 16).structure.1], (comb P0 (atProg g P)).f1, (comb P0 (atProg g P)).f2⟩ : SProg) = comb P0 (atProg g ⟨P.f0 ++ [(s.limit P.f0.length 16).structure.1], P.f1, P.f2⟩) := by
          rw [e']
          simp [comb, atProg]
        rw [hcmb]
        exact IH _ _ _ r2 hK
      · rw [if_neg g1] at hK
        rw [if_neg g1, if_neg g1]
        by_cases g2 : s.sees [⟨#[101, 110, 117, 109]⟩] = true
        · rw [if_pos g2] at hK
          rw [if_pos g2, if_pos g2]
          have em : (comb P0 (atProg g P)).f1.length = P0.f1.length + P.f1.length := by simp [comb, atProg]
          rw [em]
          have r0 := hl1 P.f1.length r (fun hk => by
            have a := (hK hk).2.1
            have b := (prog_mono k (s.limit P.f1.length 16).enum.2 ⟨P.f0, P.f1 ++ [(s.limit P.f1.length 16).enum.1], P.f2⟩).2.1
            simp only [comb, List.length_append, List.length_singleton] at a b
            omega)
          have u1 := h.u_must (l := [⟨#[101, 110, 117, 109]⟩]) (C := True) (.inr ⟨r0, trivial⟩) (fun y hy => by rw [List.mem_singleton.1 hy]; exact h3.2.1)
          obtain ⟨r2, -, e⟩ := (h.u_enum1 u1 (fun _ => (h.at_ r0).1)).resolve_left id
          have e' : (t.limit ((P0.f1.length + P.f1.length : Nat) : Int) 16).enum.1 = atEnum g (s.limit P.f1.length 16).enum.1 := e
          have hcmb : (⟨(comb P0 (atProg g P)).f0, (comb P0 (atProg g P)).f1 ++ [(t.limit ((P0.f1.length + P.f1.length : Nat) : Int) 16).enum.1], (comb P0 (atProg g P)).f2⟩ : SProg) = comb P0 (atProg g ⟨P.f0, P.f1 ++ [(s.limit P.f1.length 16).enum.1], P.f2⟩) := by
            rw [e']
            simp [comb, atProg]
          rw [hcmb]
          exact IH _ _ _ r2 hK
        · rw [if_neg g2] at hK
          rw [if_neg g2, if_neg g2]
          by_cases g3 : s.sees [⟨#[102, 110]⟩] = true
          · rw [if_pos g3] at hK
            rw [if_pos g3, if_pos g3]
            have em : (comb P0 (atProg g P)).f2.length = P0.f2.length + P.f2.length := by simp [comb, atProg]
            rw [em]
            have r0 := hl2 P.f2.length r (fun hk => by
              have a := (hK hk).2.2
              have b := (prog_mono k (s.limit P.f2.length 16).function.2 ⟨P.f0, P.f1, P.f2 ++ [(s.limit P.f2.length 16).function.1]⟩).2.2
              simp only [comb, List.length_append, List.length_singleton] at a b
              omega)
            have u1 := h.u_must (l := [⟨#[102, 110]⟩]) (C := True) (.inr ⟨r0, trivial⟩) (fun y hy => by rw [List.mem_singleton.1 hy]; exact h3.2.2)
            obtain ⟨r2, -, e⟩ := (h.u_function1 u1 (fun _ => (h.at_ r0).1)).resolve_left id
            have e' : (t.limit ((P0.f2.length + P.f2.length : Nat) : Int) 16).function.1 = atFunc g (s.limit P.f2.length 16).function.1 := e
            have hcmb : (⟨(comb P0 (atProg g P)).f0, (comb P0 (atProg g P)).f1, (comb P0 (atProg g P)).f2 ++ [(t.limit ((P0.f2.length + P.f2.length : Nat) : Int) 16).function.1]⟩ : SProg) = comb P0 (atProg g ⟨P.f0, P.f1, P.f2 ++ [(s.limit P.f2.length 16).function.1]⟩) := by
              rw [e']
              simp [comb, atProg]
            rw [hcmb]
            exact IH _ _ _ r2 hK
          · rw [if_neg g3] at hK
            rw [if_neg g3, if_neg g3]
            exact IH _ _ _ ((h.fail r).resolve_left id) hK
    · have ht : ¬ (t.bad = -1 ∧ t.toks ≠ []) := fun e => hs (hc.1 e)
      rw [if_neg hs, if_neg ht]
      exact ⟨rfl, r⟩
theorem comb0 (P : SProg) : comb prog0 P = P := rfl
/-- a reader of tokens without places -/
abbrev rd0 (l : List Tok) : Rd := ⟨l.map tok0, 0, -1, -1⟩
theorem erase_prog (l : List Tok) (n : Int) (hok : Rd.Ok ⟨l, n, -1, -1⟩) (k : Nat) :
    (Rd.program k (rd0 l) prog0).1 = atProg (fun _ => 0) (Rd.program k ⟨l, n, -1, -1⟩ prog0).1 ∧ R5 (Rd.program k ⟨l, n, -1, -1⟩ prog0).2 (Rd.program k (rd0 l) prog0).2 := by
  have h := u_prog (K := False) sim5 ⟨fun _ => rfl, fun _ => rfl, fun _ => rfl⟩ (fun {s t} r => by rw [r.toks]; cases s.toks <;> simp) prog0
    (fun {s t} m r _ => by
      have := (sim5.u_limit (m := m) (m' := ((0 + m : Nat) : Int)) (n := 16) (C := True) (.inr ⟨r, trivial⟩) (fun _ => by rw [Nat.zero_add])).resolve_left id
      exact this.1)
    (fun {s t} m r _ => by
      have := (sim5.u_limit (m := m) (m' := ((0 + m : Nat) : Int)) (n := 16) (C := True) (.inr ⟨r, trivial⟩) (fun _ => by rw [Nat.zero_add])).resolve_left id
      exact this.1)
    (fun {s t} m r _ => by
      have := (sim5.u_limit (m := m) (m' := ((0 + m : Nat) : Int)) (n := 16) (C := True) (.inr ⟨r, trivial⟩) (fun _ => by rw [Nat.zero_add])).resolve_left id
      exact this.1)
    k ⟨l, n, -1, -1⟩ (rd0 l) prog0 ⟨rfl, rfl, Iff.rfl, .inl rfl, Iff.rfl, hok⟩ (fun e => e.elim)
  exact h
/-- what parse answers, without places: 0 nothing is bad, 2, 3 the code of what is -/
def codeOf (r : SProg × List (Int × Int)) : SProg × List Int := (atProg (fun _ => 0) r.1, r.2.map Prod.snd)
theorem parse_erase (l : List Tok) (n : Int) (hok : Rd.Ok ⟨l, n, -1, -1⟩) :
    codeOf (parseT l n) = if (Rd.program rdF (rd0 l) prog0).2.bad ≠ -1 then (prog0, [2]) else if (Rd.program rdF (rd0 l) prog0).2.much ≠ -1 then (prog0, [3]) else ((Rd.program rdF (rd0 l) prog0).1, []) := by
  obtain ⟨h1, h2⟩ := erase_prog l n hok rdF
  unfold parseT
  simp only
  by_cases hb : (Rd.program rdF ⟨l, n, -1, -1⟩ prog0).2.bad = -1
  · have hb2 := h2.bad.2 hb
    by_cases hm : (Rd.program rdF ⟨l, n, -1, -1⟩ prog0).2.much = -1
    · have hm2 := h2.much.2 hm
      simp only [hb, hb2, hm, hm2, ne_eq, not_true_eq_false, if_false]
      rw [h1]
      rfl
    · have hm2 : ¬ (Rd.program rdF (rd0 l) prog0).2.much = -1 := fun e => hm (h2.much.1 e)
      simp only [hb, hb2, hm, hm2, ne_eq, not_true_eq_false, not_false_eq_true, if_false, if_true]
      rfl
  · have hb2 : ¬ (Rd.program rdF (rd0 l) prog0).2.bad = -1 := fun e => hb (h2.bad.1 e)
    simp only [hb, hb2, ne_eq, not_false_eq_true, if_true]
    rfl
/-- the same tokens up to places: the same program up to places -/
theorem parse_alike {l l' : List Tok} {n n' : Int} (h : l'.map tok0 = l.map tok0) (hok : Rd.Ok ⟨l, n, -1, -1⟩) (hok' : Rd.Ok ⟨l', n', -1, -1⟩) : codeOf (parseT l' n') = codeOf (parseT l n) := by
  rw [parse_erase l n hok, parse_erase l' n' hok']
  unfold rd0
  rw [h]
/-! ### one behind the other -/
/-- in step: the front t, and what has v behind it -/
structure R8 (v : List Tok) (s t : Rd) : Prop where mk ::
  (toks : ∃ u, s.toks = u ++ v ∧ t.toks = u) (bad : t.bad = s.bad) (much : t.much = s.much) (fin : t.fin = 0) (finS : s.fin = 0) (zero : ∀ x ∈ s.toks, x.f1 = 0) (ok : s.Ok)
def X8 (s t : Rd) : Prop := t.bad ≠ -1
theorem R8.at0 {v : List Tok} {s t : Rd} (h : R8 v s t) : t.at_ = s.at_ := by
  have hs : s.at_ = 0 := by
    unfold Rd.at_
    cases hs : s.toks with
    | nil => exact h.finS
    | cons x l => exact h.zero x (by rw [hs]; exact List.mem_cons_self)
  have ht : t.at_ = 0 := by
    obtain ⟨u, h1, h2⟩ := h.toks
    unfold Rd.at_
    rw [h2]
    cases u with
    | nil => exact h.fin
    | cons x l => exact h.zero x (by rw [h1]; exact List.mem_cons_self)
  rw [hs, ht]
theorem R8.nextx {v : List Tok} {s t : Rd} (h : R8 v s t) (hne : t.toks ≠ []) (q : Tok → Bool) : t.next q = s.next q := by
  obtain ⟨u, h1, h2⟩ := h.toks
  unfold Rd.next
  rw [h1, h2, h.bad]
  cases u with
  | nil => exact absurd h2 hne
  | cons x l => rfl
theorem R8.next {v : List Tok} {s t : Rd} (h : R8 v s t) {q : Tok → Bool} (hq : ∀ x l, v = x :: l → q x = false) : t.next q = s.next q := by
  by_cases hne : t.toks = []
  · obtain ⟨u, h1, h2⟩ := h.toks
    rw [h2] at hne
    subst hne
    unfold Rd.next
    rw [h1, h2, List.nil_append]
    cases v with
    | nil => simp
    | cons x l => simp [hq x l rfl]
  · exact h.nextx hne q
theorem R8.tl {v : List Tok} {s t : Rd} (h : R8 v s t) (hne : t.toks ≠ []) : R8 v s.tl t.tl ∧ t.hd = s.hd := by
  obtain ⟨u, h1, h2⟩ := h.toks
  cases u with
  | nil => exact absurd h2 hne
  | cons x l =>
    refine ⟨⟨⟨l, by simp [Rd.tl, h1], by simp [Rd.tl, h2]⟩, h.bad, h.much, h.fin, h.finS, fun y hy => h.zero y ?_, okC.tl h.ok (by rw [h1]; simp)⟩, ?_⟩
    · exact List.mem_of_mem_tail hy
    · unfold Rd.hd
      rw [h1, h2]
      rfl
theorem sim8 (v : List Tok) (hd : ∀ x l, v = x :: l → declTok x) : Sim id (fun _ => True) (fun q => ∀ x l, v = x :: l → q x = false) (R8 v) X8 where
  xl t := constC _
  xr s := badC
  bad h := by rw [h.bad]
  at_ h := ⟨h.at0, trivial⟩
  next h hq := h.next hq
  tl {s t p} h hq hn := by
    have hne : t.toks ≠ [] := Rd.next_ne ((h.next hq).trans hn)
    obtain ⟨h1, h2⟩ := h.tl hne
    exact ⟨by rw [h2]; exact ⟨rfl, rfl, rfl⟩, .inr h1⟩
  fail {s t} h := by
    refine .inl ?_
    show (if t.bad = -1 then t.at_ else t.bad) ≠ -1
    split
    · rw [h.at0]
      have := h.ok.at_
      omega
    · assumption
  more {s t a} c h _ := by
    refine .inr ?_
    have e : t.more c (id a) = ⟨t.toks, t.fin, t.bad, (s.more c a).much⟩ := by
      unfold Rd.more
      simp only [id, h.much]
      split
      · rfl
      · cases t
        have := h.much
        simp only at this
        simp [this]
    obtain ⟨e1, e2, e3⟩ := more_eq s c a
    rw [e]
    exact ⟨by rw [e1]; exact h.toks, by rw [e3]; exact h.bad, rfl, h.fin, by rw [e2]; exact h.finS, by rw [e1]; exact h.zero, okC.more c a h.ok⟩
  named x l e := by
    show (x.f0 == 1) = false
    rw [(hd x l e).1]
    rfl
  num x l e := by
    show (x.f0 == 3) = false
    rw [(hd x l e).1]
    rfl
  made x l e := by
    show (madeK x.f2 != 0) = false
    rcases (hd x l e).2 with e | e | e <;> rw [e] <;> decide
  ends x l e := by
    show (endsK x.f2 != 0) = false
    rcases (hd x l e).2 with e | e | e <;> rw [e] <;> decide
  sees y hy x l e := (sim2 x l 0 (hd x l e)).sees y hy
  rm x l e := (sim2 x l 0 (hd x l e)).rm
theorem R8.must {v : List Tok} {s t : Rd} (h : R8 v s t) (x : ByteArray) (hne : t.toks ≠ []) (hn : s.next (seesP [x]) = true) : R8 v (Rd.must [x] s) (Rd.must [x] t) := by
  have hn2 := (h.nextx hne (seesP [x])).trans hn
  show R8 v (if (s.may x).1 then (s.may x).2 else (s.may x).2.fail) (if (t.may x).1 then (t.may x).2 else (t.may x).2.fail)
  unfold Rd.may Rd.sees
  rw [if_pos hn, if_pos hn2]
  exact (h.tl hne).1
theorem R8.limit {v : List Tok} {s t : Rd} (hd : ∀ x l, v = x :: l → declTok x) (h : R8 v s t) (hb : t.bad = -1) (m : Int) : R8 v (s.limit m 16) (t.limit m 16) :=
  (((sim8 v hd).u_limit (m := m) (m' := m) (n := 16) (C := True) (.inr ⟨h, trivial⟩) (fun _ => rfl)).resolve_left (fun e => e (by rw [limit_bad]; exact hb))).1
theorem atProg_id (P : SProg) : atProg id P = P := by
  have h1 : ∀ x : SStmt, atStmt id x = x := fun x => rfl
  have h2 : ∀ x : SBlock, atBlock id x = x := fun x => by
    unfold atBlock
    rw [List.map_congr_left (fun y _ => h1 y), List.map_id']
    rfl
  have h3 : ∀ x : SFunc, atFunc id x = x := fun x => by
    unfold atFunc
    rw [List.map_congr_left (fun y _ => h2 y), List.map_id']
    rfl
  unfold atProg
  rw [List.map_congr_left (g := id) (fun y _ => (rfl : atStruct id y = y)), List.map_congr_left (g := id) (fun y _ => (rfl : atEnum id y = y)), List.map_congr_left (fun y _ => h3 y), List.map_id, List.map_id, List.map_id']
/-- of tokens with more behind them: their program, and then what is behind -/
theorem prog_front {v : List Tok} (hd : ∀ x l, v = x :: l → declTok x) : ∀ (k : Nat) (s t : Rd) (P : SProg), R8 v s t → s.toks.length < k → (Rd.program k t P).2.bad = -1 →
    ∃ k' s', Rd.program k s P = Rd.program k' s' (Rd.program k t P).1 ∧ s'.toks = v ∧ s'.bad = -1 ∧ s'.fin = 0 ∧ s'.much = (Rd.program k t P).2.much ∧ v.length < k' ∧ s'.Ok
  | 0, s, t, P, h, hl, hf => absurd hl (by omega)
  | k + 1, s, t, P, h, hl, hf => by
    have hb : t.bad = -1 := by
      by_cases hb : t.bad = -1
      · exact hb
      · rw [Rd.program_out (k + 1) t P (fun e => hb e.1)] at hf
        exact absurd hf hb
    by_cases hu : t.toks = []
    · rw [Rd.program_out (k + 1) t P (fun e => e.2 hu)]
      obtain ⟨u, h1, h2⟩ := h.toks
      rw [h2] at hu
      subst hu
      rw [List.nil_append] at h1
      rw [h1] at hl
      exact ⟨k + 1, s, rfl, h1, by rw [← h.bad]; exact hb, h.finS, h.much.symm, hl, h.ok⟩
    · obtain ⟨u, h1, h2⟩ := h.toks
      have hs : s.bad = -1 ∧ s.toks ≠ [] := ⟨by rw [← h.bad]; exact hb, by
        rw [h1]
        intro e
        exact hu (h2.trans (List.append_eq_nil_iff.1 e).1)⟩
      have ht : t.bad = -1 ∧ t.toks ≠ [] := ⟨hb, hu⟩
      have e1 : t.sees [⟨#[115, 116, 114, 117, 99, 116]⟩] = s.sees [⟨#[115, 116, 114, 117, 99, 116]⟩] := h.nextx hu _
      have e2 : t.sees [⟨#[101, 110, 117, 109]⟩] = s.sees [⟨#[101, 110, 117, 109]⟩] := h.nextx hu _
      have e3 : t.sees [⟨#[102, 110]⟩] = s.sees [⟨#[102, 110]⟩] := h.nextx hu _
      have S := sim8 v hd
      have hok := h.ok
      rw [Rd.program.eq_2 t P k] at hf ⊢
      rw [Rd.program.eq_2 s P k]
      rw [if_pos ht] at hf
      rw [if_pos ht, if_pos hs]
      rw [e1, e2, e3] at hf ⊢
      simp only at hf ⊢
      by_cases g1 : s.sees [⟨#[115, 116, 114, 117, 99, 116]⟩] = true
      · rw [if_pos g1] at hf
        rw [if_pos g1, if_pos g1]
        have r0 := h.limit hd hb P.f0.length
        have hx1 : (s.limit P.f0.length 16).next (seesP [⟨#[115, 116, 114, 117, 99, 116]⟩]) = true := by rw [Rd.limit_next]; exact g1
        have hne : (t.limit P.f0.length 16).toks ≠ [] := by rw [Rd.limit_toks]; exact hu
        have u1 : Uc (R8 v) X8 True _ _ := .inr ⟨r0.must ⟨#[115, 116, 114, 117, 99, 116]⟩ hne hx1, trivial⟩
        have u2 := S.u_structure1 (a := (s.limit P.f0.length 16).at_) (a' := (t.limit P.f0.length 16).at_) u1 (fun _ => (S.at_ r0).1)
        have hbx : (t.limit P.f0.length 16).structure.2.bad = -1 := by
          by_cases hbx : (t.limit P.f0.length 16).structure.2.bad = -1
          · exact hbx
          · exact absurd hf (badC.program k _ hbx)
        obtain ⟨r2, -, e⟩ := u2.resolve_left (fun e => e hbx)
        have e' : (t.limit P.f0.length 16).structure.1 = (s.limit P.f0.length 16).structure.1 := e
        have hbs : (s.limit P.f0.length 16).structure.2.bad = -1 := by
          have := r2.bad
          exact this.symm.trans hbx
        have hl2 := (Rd.structure_prog (okC.limit P.f0.length 16 hok) (n := k) (by rw [Rd.limit_toks]; omega)).resolve_left (fun e => e hbs)
        rw [e'] at hf ⊢
        exact prog_front hd k _ _ _ r2 hl2 hf
      · rw [if_neg g1] at hf
        rw [if_neg g1, if_neg g1]
        by_cases g2 : s.sees [⟨#[101, 110, 117, 109]⟩] = true
        · rw [if_pos g2] at hf
          rw [if_pos g2, if_pos g2]
          have r0 := h.limit hd hb P.f1.length
          have hx1 : (s.limit P.f1.length 16).next (seesP [⟨#[101, 110, 117, 109]⟩]) = true := by rw [Rd.limit_next]; exact g2
          have hne : (t.limit P.f1.length 16).toks ≠ [] := by rw [Rd.limit_toks]; exact hu
          have u1 : Uc (R8 v) X8 True _ _ := .inr ⟨r0.must ⟨#[101, 110, 117, 109]⟩ hne hx1, trivial⟩
          have u2 := S.u_enum1 (a := (s.limit P.f1.length 16).at_) (a' := (t.limit P.f1.length 16).at_) u1 (fun _ => (S.at_ r0).1)
          have hbx : (t.limit P.f1.length 16).enum.2.bad = -1 := by
            by_cases hbx : (t.limit P.f1.length 16).enum.2.bad = -1
            · exact hbx
            · exact absurd hf (badC.program k _ hbx)
          obtain ⟨r2, -, e⟩ := u2.resolve_left (fun e => e hbx)
          have e' : (t.limit P.f1.length 16).enum.1 = (s.limit P.f1.length 16).enum.1 := e
          have hbs : (s.limit P.f1.length 16).enum.2.bad = -1 := by
            have := r2.bad
            exact this.symm.trans hbx
          have hl2 := (Rd.enum_prog (okC.limit P.f1.length 16 hok) (n := k) (by rw [Rd.limit_toks]; omega)).resolve_left (fun e => e hbs)
          rw [e'] at hf ⊢
          exact prog_front hd k _ _ _ r2 hl2 hf
        · rw [if_neg g2] at hf
          rw [if_neg g2, if_neg g2]
          by_cases g3 : s.sees [⟨#[102, 110]⟩] = true
          · rw [if_pos g3] at hf
            rw [if_pos g3, if_pos g3]
            have r0 := h.limit hd hb P.f2.length
            have hx1 : (s.limit P.f2.length 16).next (seesP [⟨#[102, 110]⟩]) = true := by rw [Rd.limit_next]; exact g3
            have hne : (t.limit P.f2.length 16).toks ≠ [] := by rw [Rd.limit_toks]; exact hu
            have u1 : Uc (R8 v) X8 True _ _ := .inr ⟨r0.must ⟨#[102, 110]⟩ hne hx1, trivial⟩
            have u2 := S.u_function1 (a := (s.limit P.f2.length 16).at_) (a' := (t.limit P.f2.length 16).at_) u1 (fun _ => (S.at_ r0).1)
            have hbx : (t.limit P.f2.length 16).function.2.bad = -1 := by
              by_cases hbx : (t.limit P.f2.length 16).function.2.bad = -1
              · exact hbx
              · exact absurd hf (badC.program k _ hbx)
            obtain ⟨r2, -, e⟩ := u2.resolve_left (fun e => e hbx)
            have e' : (t.limit P.f2.length 16).function.1 = (s.limit P.f2.length 16).function.1 := by
              rw [show (s.limit P.f2.length 16).function.1 = atFunc id (s.limit P.f2.length 16).function.1 from ?_]
              · exact e
              · have h9 := atProg_id ⟨[], [], [(s.limit P.f2.length 16).function.1]⟩
                unfold atProg at h9
                simp only [List.map_cons, List.map_nil, Go.Proofs.YtmgkejobolgkmaaGreatDoor.PL.SProg] at h9
                injection h9 with _ _ h9
                injection h9 with h9 _
                exact h9.symm
            have hbs : (s.limit P.f2.length 16).function.2.bad = -1 := by
              have := r2.bad
              exact this.symm.trans hbx
            have hl2 := (Rd.function_prog (okC.limit P.f2.length 16 hok) (n := k) (by rw [Rd.limit_toks]; omega)).resolve_left (fun e => e hbs)
            rw [e'] at hf ⊢
            exact prog_front hd k _ _ _ r2 hl2 hf
          · rw [if_neg g3] at hf
            refine absurd hf (badC.program k _ ?_)
            show (if t.bad = -1 then t.at_ else t.bad) ≠ -1
            rw [if_pos hb, h.at0]
            have := hok.at_
            omega
end
section
open Go Go.RowKit Go.Proofs.YtmgkejobolgkmaaGreatDoorW.PrintWords Go.Proofs.YtmgkejobolgkmaaGreatDoorW.PrintLast Go.Proofs.YtmgkejobolgkmaaGreatDoorW.PrintMore
set_option linter.unusedVariables false
set_option linter.unusedSimpArgs false

instance (n : Nat) (P : SProg) : Decidable (Within n P) := by unfold Within; infer_instance
/-- in step, but for what is noted of too much -/
structure R7 (K : Prop) (s t : Rd) : Prop where mk ::
  (toks : t.toks = s.toks) (fin : t.fin = s.fin) (bad : t.bad = s.bad) (much : K → (t.much = -1 ↔ s.much = -1)) (ok : s.Ok)
theorem R7.at0 {K : Prop} {s t : Rd} (h : R7 K s t) : t.at_ = s.at_ := by
  unfold Rd.at_
  rw [h.toks, h.fin]
theorem R7.next {K : Prop} {s t : Rd} (h : R7 K s t) (q : Tok → Bool) : t.next q = s.next q := by
  unfold Rd.next
  rw [h.toks, h.bad]
theorem R7.more {K : Prop} {s t : Rd} (h : R7 K s t) (c c' : Bool) {a a' : Int} (ha : 0 ≤ a) (ha' : 0 ≤ a') (hc : K → c' = c) : R7 K (s.more c a) (t.more c' a') := by
  obtain ⟨e1, e2, e3⟩ := more_eq s c a
  obtain ⟨g1, g2, g3⟩ := more_eq t c' a'
  refine ⟨by rw [e1, g1]; exact h.toks, by rw [e2, g2]; exact h.fin, by rw [e3, g3]; exact h.bad, fun k => ?_, okC.more c a h.ok⟩
  rw [more_much s c (by omega), more_much t c' (by omega), h.much k, hc k]
theorem sim7 (K : Prop) : Sim id (fun a => 0 ≤ a) (fun _ => True) (R7 K) (fun _ _ => False) where
  xl t := constC False
  xr s := constC False
  bad h := by rw [h.bad]
  at_ h := ⟨h.at0, h.ok.at_⟩
  next h _ := h.next _
  tl {s t p} h _ hn := by
    refine ⟨?_, .inr ⟨?_, h.fin, h.bad, h.much, okC.tl h.ok (Rd.next_ne hn)⟩⟩
    · unfold Rd.hd
      rw [h.toks]
      exact ⟨rfl, rfl, rfl⟩
    · show t.toks.tail = s.toks.tail
      rw [h.toks]
  fail {s t} h := by
    have e : t.fail.bad = s.fail.bad := by
      show (if t.bad = -1 then t.at_ else t.bad) = (if s.bad = -1 then s.at_ else s.bad)
      rw [h.bad, h.at0]
    exact .inr ⟨rfl, e, e, h.much, okC.fail h.ok⟩
  more {s t a} c h ha := .inr (h.more c c ha ha (fun _ => rfl))
  named := trivial
  num := trivial
  made := trivial
  ends := trivial
  sees _ _ := trivial
  rm := trivial
theorem R7.limit {K : Prop} {s t : Rd} (n m : Nat) (h : R7 K s t) (hk : K → n + m < 16) : R7 K (s.limit m 16) (t.limit ((n + m : Nat) : Int) 16) := by
  unfold Rd.limit
  refine h.more _ _ h.ok.at_ (by rw [h.at0]; exact h.ok.at_) (fun k => ?_)
  have := hk k
  rw [decide_eq_false (by omega), decide_eq_false (by omega)]
/-- rounds enough are enough -/
theorem prog_fuel : ∀ (k k2 : Nat) (s : Rd) (P : SProg), s.Ok → s.toks.length < k → s.toks.length < k2 → Rd.program k s P = Rd.program k2 s P
  | 0, _, s, P, hok, h1, h2 => absurd h1 (by omega)
  | _ + 1, 0, s, P, hok, h1, h2 => absurd h2 (by omega)
  | k + 1, k2 + 1, s, P, hok, h1, h2 => by
    have go : ∀ (s2 : Rd) (P2 : SProg), s2.Ok → (s2.bad ≠ -1 ∨ s2.toks.length < k) → (s2.bad ≠ -1 ∨ s2.toks.length < k2) → Rd.program k s2 P2 = Rd.program k2 s2 P2 := by
      intro s2 P2 ho g1 g2
      by_cases hb : s2.bad = -1
      · exact prog_fuel k k2 s2 P2 ho (g1.resolve_left (fun e => e hb)) (g2.resolve_left (fun e => e hb))
      · rw [Rd.program_out k s2 P2 (fun e => hb e.1), Rd.program_out k2 s2 P2 (fun e => hb e.1)]
    unfold Rd.program
    simp only
    split
    · split
      · exact go _ _ (okC.structure_ (okC.limit _ _ hok)) (Rd.structure_prog (okC.limit _ _ hok) (by rw [Rd.limit_toks]; omega)) (Rd.structure_prog (okC.limit _ _ hok) (by rw [Rd.limit_toks]; omega))
      · split
        · exact go _ _ (okC.enum (okC.limit _ _ hok)) (Rd.enum_prog (okC.limit _ _ hok) (by rw [Rd.limit_toks]; omega)) (Rd.enum_prog (okC.limit _ _ hok) (by rw [Rd.limit_toks]; omega))
        · split
          · exact go _ _ (okC.function (okC.limit _ _ hok)) (Rd.function_prog (okC.limit _ _ hok) (by rw [Rd.limit_toks]; omega)) (Rd.function_prog (okC.limit _ _ hok) (by rw [Rd.limit_toks]; omega))
          · exact go _ _ (okC.fail hok) (.inl (Rd.fail_bad hok)) (.inl (Rd.fail_bad hok))
    · rfl
theorem limit_more {s : Rd} (hok : s.Ok) (m : Nat) (h : s.much ≠ -1 ∨ 16 ≤ m) : (s.limit m 16).Ok ∧ (s.limit m 16).much ≠ -1 := by
  refine ⟨okC.limit _ _ hok, ?_⟩
  unfold Rd.limit
  rw [ne_eq, more_much s _ (by have := hok.at_; omega)]
  rintro ⟨h1, h2⟩
  rcases h with h | h
  · exact h h1
  · rw [decide_eq_true (by omega)] at h2
    cases h2
/-- with too many declarations it is noted that there is too much -/
theorem prog_many : ∀ (k : Nat) (s : Rd) (P : SProg), s.Ok → (¬ Within 16 P → s.much ≠ -1) → ¬ Within 16 (Rd.program k s P).1 → (Rd.program k s P).2.much ≠ -1
  | 0, s, P, hok, h, hf => h hf
  | k + 1, s, P, hok, h, hf => by
    unfold Rd.program at hf ⊢
    simp only at hf ⊢
    split
    · rename_i hs
      rw [if_pos hs] at hf
      split
      · rename_i g
        rw [if_pos g] at hf
        refine prog_many k _ _ (okC.structure_ (okC.limit _ _ hok)) (fun hw => (muchC.structure_ (limit_more hok P.f0.length ?_)).2) hf
        by_cases hm : s.much = -1
        · right
          by_cases h1 : P.f0.length < 16
          · have h2 : Within 16 P := Decidable.not_not.1 (fun e => h e hm)
            exact absurd ⟨by simp only [List.length_append, List.length_singleton]; omega, h2.2.1, h2.2.2⟩ hw
          · omega
        · exact .inl hm
      · rename_i g
        rw [if_neg g] at hf
        split
        · rename_i g
          rw [if_pos g] at hf
          refine prog_many k _ _ (okC.enum (okC.limit _ _ hok)) (fun hw => (muchC.enum (limit_more hok P.f1.length ?_)).2) hf
          by_cases hm : s.much = -1
          · right
            by_cases h1 : P.f1.length < 16
            · have h2 : Within 16 P := Decidable.not_not.1 (fun e => h e hm)
              exact absurd ⟨h2.1, by simp only [List.length_append, List.length_singleton]; omega, h2.2.2⟩ hw
            · omega
          · exact .inl hm
        · rename_i g
          rw [if_neg g] at hf
          split
          · rename_i g
            rw [if_pos g] at hf
            refine prog_many k _ _ (okC.function (okC.limit _ _ hok)) (fun hw => (muchC.function (limit_more hok P.f2.length ?_)).2) hf
            by_cases hm : s.much = -1
            · right
              by_cases h1 : P.f2.length < 16
              · have h2 : Within 16 P := Decidable.not_not.1 (fun e => h e hm)
                exact absurd ⟨h2.1, h2.2.1, by simp only [List.length_append, List.length_singleton]; omega⟩ hw
              · omega
            · exact .inl hm
          · rename_i g
            rw [if_neg g] at hf
            exact prog_many k _ _ (okC.fail hok) (fun hw => h hw) hf
    · rename_i hs
      rw [if_neg hs] at hf
      exact h hf
theorem has_eq {x y : ByteArray} (h : hasT [x] y = true) : y = x := by
  unfold hasT at h
  simp only [List.any_cons, List.any_nil, Bool.or_false] at h
  rw [beq_iff_eq, ByteArray.toList_eq, ByteArray.toList_eq] at h
  first | exact bytes_ext h | exact bytes_ext h.symm
/-- of a program's tokens the first one is a declaration's word -/
theorem prog_head {l : List Tok} {P : SProg} (hlk : ∀ t ∈ l, (t.f2 = ⟨#[115, 116, 114, 117, 99, 116]⟩ ∨ t.f2 = ⟨#[101, 110, 117, 109]⟩ ∨ t.f2 = ⟨#[102, 110]⟩) → t.f0 = 2) (hok : (rd0 l).Ok) (hf : (Rd.program rdF (rd0 l) P).2.bad = -1) : ∀ x v, l.map tok0 = x :: v → declTok x := by
  intro x v hx
  have hm : ∃ t ∈ l, tok0 t = x := by
    have : x ∈ l.map tok0 := by rw [hx]; exact List.mem_cons_self
    exact List.mem_map.1 this
  obtain ⟨t, ht, rfl⟩ := hm
  have hl := hlk t ht
  have hsee : ∀ y, (rd0 l).sees [y] = true → t.f2 = y := by
    intro y hy
    have h1 : (rd0 l).next (seesP [y]) = seesP [y] (tok0 t) := sees_head (s := rd0 l) hx rfl _
    have h2 : seesP [y] (tok0 t) = true := h1.symm.trans hy
    have h3 : ((t.f0 == 2 || t.f0 == 4) && hasT [y] t.f2) = true := h2
    exact has_eq (Bool.and_eq_true_iff.1 h3).2
  have hstep : Rd.program rdF (rd0 l) P = Rd.program (100000 + 1) (rd0 l) P := rfl
  rw [hstep] at hf
  unfold Rd.program at hf
  rw [if_pos ⟨rfl, by show l.map tok0 ≠ []; rw [hx]; simp⟩] at hf
  by_cases g1 : (rd0 l).sees [⟨#[115, 116, 114, 117, 99, 116]⟩] = true
  · have e := hsee _ g1
    exact ⟨hl (.inl e), .inl e⟩
  · rw [if_neg g1] at hf
    by_cases g2 : (rd0 l).sees [⟨#[101, 110, 117, 109]⟩] = true
    · have e := hsee _ g2
      exact ⟨hl (.inr (.inl e)), .inr (.inl e)⟩
    · rw [if_neg g2] at hf
      by_cases g3 : (rd0 l).sees [⟨#[102, 110]⟩] = true
      · have e := hsee _ g3
        exact ⟨hl (.inr (.inr e)), .inr (.inr e)⟩
      · rw [if_neg g3] at hf
        exact absurd hf (badC.program _ _ (Rd.fail_bad hok))
theorem rd0_ok {l : List Tok} {n : Int} (h : Rd.Ok ⟨l, n, -1, -1⟩) : (rd0 l).Ok := by
  refine ⟨?_, fun t ht => ?_, Int.le_refl _, .inl rfl⟩
  · show (l.map tok0).length ≤ 100000
    rw [List.length_map]
    exact h.len
  · obtain ⟨u, hu, rfl⟩ := List.mem_map.1 ht
    exact ⟨(h.tok u hu).1, Int.le_refl _⟩
/-- what a good answer tells of the reader without places -/
theorem good_of {l : List Tok} {n : Int} {P : SProg} (hok : Rd.Ok ⟨l, n, -1, -1⟩) (h : parseT l n = (P, [])) :
    (Rd.program rdF (rd0 l) prog0).2.bad = -1 ∧ (Rd.program rdF (rd0 l) prog0).2.much = -1 ∧ (Rd.program rdF (rd0 l) prog0).1 = atProg (fun _ => 0) P := by
  have e := parse_erase l n hok
  rw [h] at e
  unfold codeOf at e
  simp only [List.map_nil] at e
  by_cases hb : (Rd.program rdF (rd0 l) prog0).2.bad = -1
  · rw [if_neg (fun k => k hb)] at e
    by_cases hm : (Rd.program rdF (rd0 l) prog0).2.much = -1
    · rw [if_neg (fun k => k hm)] at e
      exact ⟨hb, hm, (congrArg Prod.fst e).symm⟩
    · rw [if_pos hm] at e
      have := congrArg Prod.snd e
      simp at this
  · rw [if_pos hb] at e
    have := congrArg Prod.snd e
    simp at this
theorem atProg_comb (g : Int → Int) (P Q : SProg) : atProg g (comb P Q) = comb (atProg g P) (atProg g Q) := by
  simp [atProg, comb]
theorem within_at (g : Int → Int) (n : Nat) (P : SProg) : Within n (atProg g P) ↔ Within n P := by
  simp [Within, atProg]
theorem join_plain {la lb lj : List Tok} {na nb nj : Int} {Pa Pb : SProg} (hoka : Rd.Ok ⟨la, na, -1, -1⟩) (hokb : Rd.Ok ⟨lb, nb, -1, -1⟩) (hokj : Rd.Ok ⟨lj, nj, -1, -1⟩)
    (hlk : ∀ t ∈ lb, (t.f2 = ⟨#[115, 116, 114, 117, 99, 116]⟩ ∨ t.f2 = ⟨#[101, 110, 117, 109]⟩ ∨ t.f2 = ⟨#[102, 110]⟩) → t.f0 = 2) (ha : parseT la na = (Pa, [])) (hb : parseT lb nb = (Pb, [])) (hj : lj.map tok0 = la.map tok0 ++ lb.map tok0) :
    codeOf (parseT lj nj) = if Within 16 (comb Pa Pb) then (atProg (fun _ => 0) (comb Pa Pb), []) else (prog0, [3]) := by
  obtain ⟨a1, a2, a3⟩ := good_of hoka ha
  obtain ⟨b1, b2, b3⟩ := good_of hokb hb
  have hoj := rd0_ok hokj
  have hob := rd0_ok hokb
  have hd := prog_head hlk hob b1
  have hlen : lj.length ≤ 100000 := hokj.len
  have hlb : lb.length ≤ 100000 := hokb.len
  have r8 : R8 (lb.map tok0) (rd0 lj) (rd0 la) := by
    refine ⟨⟨la.map tok0, hj, rfl⟩, rfl, rfl, rfl, rfl, fun x hx => ?_, hoj⟩
    obtain ⟨u, _, rfl⟩ := List.mem_map.1 hx
    rfl
  obtain ⟨k', s', e1, e2, e3, e4, e5, e6, e7⟩ := prog_front hd rdF (rd0 lj) (rd0 la) prog0 r8 (by
    show (lj.map tok0).length < 100001
    rw [List.length_map]
    omega) a1
  have es : s' = rd0 lb := by
    cases s'
    simp only at e2 e3 e4 e5
    rw [a2] at e5
    simp only [rd0, e2, e3, e4, e5]
  subst es
  rw [prog_fuel k' rdF (rd0 lb) _ hob (by rw [List.length_map] at e6; simpa using e6) (by
    show (lb.map tok0).length < 100001
    rw [List.length_map]
    omega)] at e1
  have hu := u_prog (K := Within 16 (comb Pa Pb)) (sim7 _) ⟨trivial, trivial, trivial⟩ (fun {s t} r => by rw [r.toks]) (Rd.program rdF (rd0 la) prog0).1
    (fun {s t} m r hk => r.limit _ m hk) (fun {s t} m r hk => r.limit _ m hk) (fun {s t} m r hk => r.limit _ m hk) rdF (rd0 lb) (rd0 lb) prog0 ⟨rfl, rfl, rfl, fun _ => Iff.rfl, hob⟩ (fun k => by
      rw [b3, a3, ← atProg_comb, within_at]
      exact k)
  have e0 : comb (Rd.program rdF (rd0 la) prog0).1 (atProg id prog0) = (Rd.program rdF (rd0 la) prog0).1 := by
    simp [comb, atProg, prog0]
  rw [e0, ← e1, atProg_id, a3, b3, ← atProg_comb] at hu
  obtain ⟨h1, h2⟩ := hu
  rw [parse_erase lj nj hokj, if_neg (fun e => e (h2.bad.trans b1))]
  by_cases hk : Within 16 (comb Pa Pb)
  · rw [if_pos hk, if_neg (fun e => e ((h2.much hk).2 b2)), h1]
  · rw [if_neg hk, if_pos]
    refine prog_many rdF (rd0 lj) prog0 hoj (fun e => absurd ⟨Nat.zero_le _, Nat.zero_le _, Nat.zero_le _⟩ e) ?_
    rw [h1, within_at]
    exact hk
end
end Go.Proofs.YtmgkejobolgkmaaGreatDoor.PL
