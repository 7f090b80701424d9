import Derived.Test.YtnlbbpandnpgoaaDoorPLx11
import Derived.Test.YtnlbbpandnpgoaaDoorLexPure5
namespace Go.Proofs.YtnlbbpandnpgoaaDoor.Pure
open Go.RowKit Go.Proofs.YtnlbbpandnpgoaaDoor.PL
set_option linter.unusedVariables false

theorem err_at {i : Nat} {l : List UInt8} {R : Except Nat (List S35)} (h : Lexes i l R) : ∀ p, R = .error p → i ≤ p ∧ p < i + l.length := by
  induction h with
  | nil i => intro p hp; cases hp
  | @blank i c l R hb _ ih =>
    intro p hp
    have := ih p hp
    simp only [List.length_cons]
    omega
  | @remark i l R _ ih =>
    intro p hp
    have := ih p hp
    have := spanN_le notLF l
    simp only [List.length_cons, List.length_drop] at *
    omega
  | @bad i c l hb h35 ht =>
    intro p hp
    injection hp with hp
    subst hp
    simp only [List.length_cons]
    omega
  | @tok i c l R k2 v m hb h35 ht hR2 ih =>
    intro p hp
    have hm := (tokB_pos ht).2
    cases R with
    | ok l2 => cases hp
    | error q =>
      unfold consR at hp
      injection hp with hp
      subst hp
      have := ih q rfl
      simp only [List.length_cons, List.length_drop] at *
      omega
def endOf (ts : List S35) (n : Int) : Int := match ts with
  | [] => n
  | t :: _ => t.f1
theorem end_at {i : Nat} {l : List UInt8} {R : Except Nat (List S35)} (h : Lexes i l R) : ∀ ts, R = .ok ts → ∀ n : Nat, n = i + l.length → (i : Int) ≤ endOf ts (n : Int) ∧ endOf ts (n : Int) ≤ (n : Int) := by
  induction h with
  | nil i =>
    intro ts hp n hn
    injection hp with hp
    subst hp
    show (i : Int) ≤ (n : Int) ∧ (n : Int) ≤ (n : Int)
    simp only [List.length_nil] at hn
    omega
  | @blank i c l R hb _ ih =>
    intro ts hp n hn
    have := ih ts hp n (by simp only [List.length_cons] at hn; omega)
    omega
  | @remark i l R _ ih =>
    intro ts hp n hn
    have h1 := spanN_le notLF l
    have := ih ts hp n (by simp only [List.length_cons, List.length_drop] at *; omega)
    omega
  | @bad i c l hb h35 ht => intro ts hp; cases hp
  | @tok i c l R k2 v m hb h35 ht hR2 ih =>
    intro ts hp n hn
    cases R with
    | error q => cases hp
    | ok l2 =>
      unfold consR at hp
      injection hp with hp
      subst hp
      show (i : Int) ≤ (i : Int) ∧ (i : Int) ≤ (n : Int)
      omega
theorem rd_at (pre : List S35) (t : S35) (ts : List S35) : rd_T35 (pre ++ t :: ts) (pre.length : Int) = t := by
  unfold rd_T35
  simp [List.getD]
theorem places_l0 (s : ByteArray) (pre ts : List S35) (i : Nat) (hs : s.size ≤ 8000) (hb : (i : Int) ≤ endOf ts (s.size : Int) ∧ endOf ts (s.size : Int) ≤ (s.size : Int))
    (h : Ev (fun k => droguelaw03_LexPlaces.l1 k s (pre ++ ts) (i : Int) (pre.length : Int) (endOf ts (s.size : Int)) false (i : Int)) true) : Ev (fun k => droguelaw03_LexPlaces.l0 k s (pre ++ ts) (i : Int) (pre.length : Int)) true := by
  have hj : Ev (fun k => droguelaw03_LexPlaces.j1 k s (pre ++ ts) (i : Int) (pre.length : Int) (endOf ts (s.size : Int))) true := by
    refine Ev.step ?_
    simp only [droguelaw03_LexPlaces.j1]
    refine Ev.neg (by omega) (Ev.step ?_)
    simp only [droguelaw03_LexPlaces.j2]
    exact Ev.neg (by simp; omega) h
  refine Ev.step ?_
  simp only [droguelaw03_LexPlaces.l0]
  cases ts with
  | nil => exact Ev.pos (by simp) (Ev.neg (by simp) hj)
  | cons t ts =>
    rw [rd_at]
    exact Ev.pos (by simp only [List.length_append, List.length_cons]; omega) (Ev.pos (by simp only [List.length_append, List.length_cons]; omega) (Ev.pos (by omega) hj))
/-- one byte that stands between tokens -/
theorem places_step (s : ByteArray) (toks : List S35) (at_ x6 x7 : Int) (x8 : Bool) (i : Nat) (c : UInt8) (l : List UInt8) (ha : At s i (c :: l)) (hs : s.size ≤ 8000) (h7 : (i : Int) < x7) (hc : x8 = true ∨ c = 35 ∨ Blank c)
    (h : Ev (fun k => droguelaw03_LexPlaces.l1 k s toks at_ x6 x7 (if c = 10 then false else (x8 || decide (c = 35))) ((i + 1 : Nat) : Int)) true) : Ev (fun k => droguelaw03_LexPlaces.l1 k s toks at_ x6 x7 x8 (i : Int)) true := by
  have hlt := ha.lt
  have hw : wrap64 ((i : Int) + 1) = ((i + 1 : Nat) : Int) := w64s i (by omega)
  have e35 : ((c.toNat : Int) = 35) ↔ c = 35 := ⟨fun h => UInt8.toNat_inj.1 (by have : c.toNat = 35 := by omega
                                                                                exact this), fun h => by rw [h]; rfl⟩
  have e10 : ((c.toNat : Int) = 10) ↔ c = 10 := ⟨fun h => UInt8.toNat_inj.1 (by have : c.toNat = 10 := by omega
                                                                                exact this), fun h => by rw [h]; rfl⟩
  have hj5 : ∀ y : Bool, y = (x8 || decide (c = 35)) → Ev (fun k => droguelaw03_LexPlaces.j5 k s toks at_ x6 x7 y (i : Int) (c.toNat : Int) false) true := by
    intro y hy
    refine Ev.step ?_
    simp only [droguelaw03_LexPlaces.j5]
    rw [hw]
    refine Ev.neg (by decide) ?_
    by_cases h10 : c = 10
    · rw [if_pos h10] at h
      exact Ev.pos (e10.2 h10) h
    · rw [if_neg h10, ← hy] at h
      exact Ev.neg (fun e => h10 (e10.1 e)) h
  refine Ev.step ?_
  simp only [droguelaw03_LexPlaces.l1]
  rw [ha.bt]
  refine Ev.pos h7 (Ev.pos (by omega) (Ev.pos hlt ?_))
  by_cases h35 : c = 35
  · refine Ev.pos (e35.2 h35) (Ev.step ?_)
    simp only [droguelaw03_LexPlaces.j4]
    exact Ev.pos trivial (hj5 true (by rw [h35]; simp))
  · refine Ev.neg (fun e => h35 (e35.1 e)) (Ev.step ?_)
    simp only [droguelaw03_LexPlaces.j4]
    have hy : x8 = (x8 || decide (c = 35)) := by rw [decide_eq_false h35, Bool.or_false]
    by_cases h8 : x8 = true
    · exact Ev.pos h8 (hj5 x8 hy)
    · refine Ev.neg h8 ?_
      rcases (hc.resolve_left h8).resolve_left h35 with rfl | rfl | rfl
      · exact Ev.pos rfl (hj5 x8 hy)
      · exact Ev.neg (by decide) (Ev.pos rfl (hj5 x8 hy))
      · exact Ev.neg (by decide) (Ev.neg (by decide) (hj5 x8 hy))
/-- through a remark -/
theorem places_remark (s : ByteArray) (toks : List S35) (at_ x6 x7 : Int) (hs : s.size ≤ 8000) : ∀ (l : List UInt8) (i : Nat), At s i l → ((i + spanN notLF l : Nat) : Int) ≤ x7 →
    Ev (fun k => droguelaw03_LexPlaces.l1 k s toks at_ x6 x7 true ((i + spanN notLF l : Nat) : Int)) true → Ev (fun k => droguelaw03_LexPlaces.l1 k s toks at_ x6 x7 true (i : Int)) true
  | [], i, ha, h7, h => h
  | c :: l, i, ha, h7, h => by
    rw [spanN_cons] at h h7
    by_cases hc : notLF (c.toNat : Int) = true
    · rw [if_pos hc] at h h7
      have h10 : c ≠ 10 := by
        rintro rfl
        revert hc
        decide
      refine places_step s toks at_ x6 x7 true i c l ha hs (by omega) (Or.inl rfl) ?_
      rw [if_neg h10, Bool.true_or]
      refine places_remark s toks at_ x6 x7 hs l (i + 1) ha.tl (by rw [show i + 1 + spanN notLF l = i + (spanN notLF l + 1) by omega]; exact h7) ?_
      rw [show i + 1 + spanN notLF l = i + (spanN notLF l + 1) by omega]
      exact h
    · rw [if_neg hc] at h
      exact h
theorem stop_lf (l : List UInt8) : l.drop (spanN notLF l) = [] ∨ ∃ r, l.drop (spanN notLF l) = 10 :: r := by
  have h := span_stop notLF l
  generalize l.drop (spanN notLF l) = m at h
  cases m with
  | nil => exact Or.inl rfl
  | cons c r =>
    right
    rw [spanN_cons] at h
    by_cases hc : notLF (c.toNat : Int) = true
    · rw [if_pos hc] at h
      omega
    · have h10 : c = 10 := by
        unfold notLF at hc
        simp only [bne_iff_ne, ne_eq, Decidable.not_not] at hc
        have : c.toNat = 10 := by omega
        exact UInt8.toNat_inj.1 this
      exact ⟨r, by rw [h10]⟩
theorem places {i : Nat} {l : List UInt8} {R : Except Nat (List S35)} (h : Lexes i l R) : ∀ ts, R = .ok ts → ∀ (s : ByteArray) (pre : List S35) (flag : Bool) (at_ : Int), At s i l → s.size ≤ 8000 → pre.length + l.length ≤ 8000 → (flag = true → l = [] ∨ ∃ r, l = 10 :: r) →
    Ev (fun k => droguelaw03_LexPlaces.l1 k s (pre ++ ts) at_ (pre.length : Int) (endOf ts (s.size : Int)) flag (i : Int)) true := by
  induction h with
  | nil i =>
    intro ts hp s pre flag at_ ha hs hk hf
    injection hp with hp
    subst hp
    have hn := ha.nil
    refine Ev.step ?_
    simp only [droguelaw03_LexPlaces.l1]
    refine Ev.neg (by show ¬ (i : Int) < (s.size : Int); omega) (Ev.neg (by simp) (Ev.step ?_))
    simp only [droguelaw03_LexPlaces.l0]
    rw [w64s _ (by simp at hk; omega)]
    exact Ev.neg (by simp only [List.length_append, List.length_nil]; omega) (Ev.pure _)
  | @blank i c l R hb hl2 ih =>
    intro ts hp s pre flag at_ ha hs hk hf
    have hlen := ha.len
    have he := end_at hl2 ts hp s.size (by simp only [List.length_cons] at hlen; omega)
    simp only [List.length_cons] at hk
    refine places_step s _ _ _ _ flag i c l ha hs (by omega) (Or.inr (Or.inr hb)) ?_
    have hfl : (if c = 10 then false else (flag || decide (c = 35))) = false := by
      by_cases h10 : c = 10
      · rw [if_pos h10]
      · rw [if_neg h10]
        have h35 : c ≠ 35 := by
          rintro rfl
          revert hb
          decide
        have : flag = false := by
          cases flag with
          | false => rfl
          | true =>
            rcases hf rfl with h | ⟨r, h⟩
            · cases h
            · injection h with h _
              exact absurd h h10
        rw [this, decide_eq_false h35]
        rfl
    rw [hfl]
    exact ih ts hp s pre false at_ ha.tl hs (by omega) (fun h => by cases h)
  | @remark i l R hl2 ih =>
    intro ts hp s pre flag at_ ha hs hk hf
    have hlen := ha.len
    have h1 := spanN_le notLF l
    simp only [List.length_cons] at hlen hk
    have he := end_at hl2 ts hp s.size (by simp only [List.length_drop]; omega)
    refine places_step s _ _ _ _ flag i 35 l ha hs (by omega) (Or.inr (Or.inl rfl)) ?_
    rw [if_neg (by decide), decide_eq_true rfl, Bool.or_true]
    refine places_remark s _ _ _ _ hs l (i + 1) ha.tl (by omega) ?_
    have ha2 := ha.tl.drop (spanN notLF l) h1
    rw [show i + 1 + spanN notLF l = i + (spanN notLF l + 1) by omega] at ha2 ⊢
    exact ih ts hp s pre true at_ ha2 hs (by simp only [List.length_drop]; omega) (fun _ => stop_lf l)
  | @bad i c l hb h35 ht => intro ts hp; cases hp
  | @tok i c l R k2 v m hb h35 ht hR2 ih =>
    intro ts hp s pre flag at_ ha hs hk hf
    cases R with
    | error q => cases hp
    | ok l2 =>
      unfold consR at hp
      injection hp with hp
      subst hp
      have hlen := ha.len
      have hm := (tokB_pos ht).2
      simp only [List.length_cons] at hm hlen hk
      have ha2 := ha.tl.drop m (by omega)
      rw [show i + 1 + m = i + (m + 1) by omega] at ha2
      have he := end_at hR2 l2 rfl s.size (by simp only [List.length_drop]; omega)
      have hff : flag = false := by
        cases flag with
        | false => rfl
        | true =>
          rcases hf rfl with h | ⟨r, h⟩
          · cases h
          · injection h with h _
            exact absurd (Or.inr (Or.inr h)) hb
      subst hff
      have hz : (⟨((c :: l).take (m + 1)).toArray⟩ : ByteArray).size = m + 1 := by
        show ((c :: l).take (m + 1)).toArray.size = _
        simp
        omega
      have hw : wrap64 ((i : Int) + ((m + 1 : Nat) : Int)) = ((i + (m + 1) : Nat) : Int) := by unfold wrap64; omega
      have hx := ha.extract (m + 1)
      have h0 := places_l0 s (pre ++ [(⟨k2, (i : Int), ⟨((c :: l).take (m + 1)).toArray⟩, v⟩ : S35)]) l2 (i + (m + 1)) hs he (ih l2 rfl s _ false _ ha2 hs (by simp only [List.length_append, List.length_cons, List.length_nil, List.length_drop]; omega) (fun h => by cases h))
      rw [List.append_assoc] at h0
      refine Ev.step ?_
      simp only [droguelaw03_LexPlaces.l1]
      have e7 : endOf ((⟨k2, (i : Int), ⟨((c :: l).take (m + 1)).toArray⟩, v⟩ : S35) :: l2) (s.size : Int) = (i : Int) := rfl
      rw [rd_at, e7]
      simp only [hz, hw]
      rw [Int.toNat_natCast, Int.toNat_natCast, hx, w64s _ (by omega)]
      refine Ev.neg (by omega) (Ev.pos (by simp only [List.length_append, List.length_cons]; omega) (Ev.pos (by omega) (Ev.neg (by decide) ?_)))
      refine Ev.neg (by omega) (Ev.pos (by omega) (Ev.pos (by omega) (Ev.pos (by omega) (Ev.pos rfl (Ev.neg (by omega) ?_)))))
      simp only [List.length_append, List.length_cons, List.length_nil, List.cons_append, List.nil_append, Nat.zero_add] at h0
      exact h0
theorem LexPlaces : droguelaw03_LexPlaces.Pure := by
  intro a0 h0
  refine Ev.some_of ?_
  unfold droguelaw03_LexPlaces.f
  refine Ev.bind (Ev.const (show droguelaw03_alive.f = some true from rfl)) (Ev.pos rfl ?_)
  by_cases hs : (a0.size : Int) > 8000
  · exact Ev.pos hs (Ev.pure _)
  · refine Ev.neg hs ?_
    have hz := size_l a0
    obtain ⟨R, hR⟩ := Lexes.total a0.data.toList.length a0.data.toList 0 (Nat.le_refl _)
    refine Ev.bind (Ev.const (lex_of (by omega) hR)) ?_
    cases R with
    | error p =>
      have hp := err_at hR p rfl
      have hne : (!((p : Int) == 0) || (!((1 : Int) == 0))) = true := by simp
      refine Ev.pos hne (Ev.pos rfl (Ev.pos (show (p : Int) ≥ 0 by omega) ?_))
      have e : decide ((p : Int) < (a0.size : Int)) = true := decide_eq_true (by omega)
      show Ev (fun k => some (decide ((p : Int) < (a0.size : Int)))) true
      rw [e]
      exact Ev.pure _
    | ok ts =>
      refine Ev.neg (by simp [progR]) ?_
      have he := end_at hR ts rfl a0.size (by omega)
      exact places_l0 a0 [] ts 0 (by omega) he (places hR ts rfl a0 [] false 0 (At.zero a0) (by omega) (by simp only [List.length_nil]; omega) (fun h => by cases h))
end Go.Proofs.YtnlbbpandnpgoaaDoor.Pure
