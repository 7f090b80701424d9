/- Plain law of layer 3: the document's Lex answers as the relation says. -/
import Derived.Test.YtnlbbpandnpgoaaDoorLexPure3
namespace Go.Proofs.YtnlbbpandnpgoaaDoor.PL
open Go.RowKit Go.Proofs.YtnlbbpandnpgoaaDoorW.PrintWords Go.Proofs.YtnlbbpandnpgoaaDoorW.PrintLast Go.Proofs.YtnlbbpandnpgoaaDoorW.PrintMore
set_option linter.unusedVariables false
set_option linter.unusedSimpArgs false

def to36 (t : S35) : S36 := ⟨t.f0, t.f1, t.f2, t.f3⟩
def refR (acc : List S36) : Except Nat (List S35) → List S36 × Int × Int
  | .ok l => (acc ++ l.map to36, 0, 0)
  | .error p => ([], (p : Int), 1)
theorem refR_cons (acc : List S36) (t : S35) (R : Except Nat (List S35)) : refR (acc ++ [to36 t]) R = refR acc (consR t R) := by
  cases R with
  | ok l => simp [refR, consR]
  | error p => rfl
theorem span_nil (p : Int → Bool) : spanN p [] = 0 := rfl
theorem ref_l1 (s : ByteArray) (acc : List S36) (r : List S36 × Int × Int) (hs : s.size ≤ 16384) : ∀ (l : List UInt8) (i : Nat), At s i l → Ev (fun k => drogueref03_Lex.l0 k s acc ((i + spanN notLF l : Nat) : Int)) r → Ev (fun k => drogueref03_Lex.l1 k s acc (i : Int)) r
  | [], i, ha, h => by
    have := ha.nil
    refine Ev.step ?_
    simp only [drogueref03_Lex.l1]
    exact Ev.neg (by omega) h
  | c :: l, i, ha, h => by
    have hlt := ha.lt
    refine Ev.step ?_
    simp only [drogueref03_Lex.l1]
    rw [ha.bt, w64s i (by omega)]
    refine Ev.pos hlt (Ev.pos (by omega) ?_)
    rw [spanN_cons] at h
    by_cases hc : (c.toNat : Int) = 10
    · refine Ev.pos hc ?_
      have e : notLF (c.toNat : Int) = false := by rw [hc]; rfl
      rw [e] at h
      exact h
    · refine Ev.neg hc ?_
      have e : notLF (c.toNat : Int) = true := by unfold notLF; rw [bne_iff_ne]; exact hc
      rw [if_pos e, show i + (spanN notLF l + 1) = i + 1 + spanN notLF l by omega] at h
      exact ref_l1 s acc r hs l (i + 1) ha.tl h
theorem ref_l2 (s : ByteArray) (acc : List S36) (r : List S36 × Int × Int) (i : Int) (p q : Int) (t : ByteArray) (n : Int) (hs : s.size ≤ 16384) : ∀ (l : List UInt8) (j : Nat), At s j l →
    Ev (fun k => drogueref03_Lex.j4 k s acc i ((j + spanN innerB l : Nat) : Int) p q t n) r → Ev (fun k => drogueref03_Lex.l2 k s acc i (j : Int) p q t n) r
  | [], j, ha, h => by
    have := ha.nil
    refine Ev.step ?_
    simp only [drogueref03_Lex.l2]
    exact Ev.neg (by omega) h
  | c :: l, j, ha, h => by
    have hlt := ha.lt
    refine Ev.step ?_
    simp only [drogueref03_Lex.l2]
    rw [ha.bt, w64s j (by omega)]
    refine Ev.pos hlt (Ev.pos (by omega) ?_)
    refine Ev.bind (Ev.const (refletter_f _)) ?_
    rw [spanN_cons] at h
    by_cases hc : isLetB (c.toNat : Int) = true
    · refine Ev.pos hc ?_
      have e : innerB (c.toNat : Int) = true := let_inner _ hc
      rw [if_pos e, show j + (spanN innerB l + 1) = j + 1 + spanN innerB l by omega] at h
      exact ref_l2 s acc r i p q t n hs l (j + 1) ha.tl h
    · refine Ev.neg hc (Ev.bind (Ev.const (refdigit_f _)) ?_)
      have hcf : isLetB (c.toNat : Int) = false := by simpa using hc
      by_cases hd : isDigB (c.toNat : Int) = true
      · refine Ev.pos hd ?_
        have e : innerB (c.toNat : Int) = true := by unfold innerB; rw [hcf, hd]; rfl
        rw [if_pos e, show j + (spanN innerB l + 1) = j + 1 + spanN innerB l by omega] at h
        exact ref_l2 s acc r i p q t n hs l (j + 1) ha.tl h
      · refine Ev.neg hd ?_
        have hdf : isDigB (c.toNat : Int) = false := by simpa using hd
        by_cases h95 : (c.toNat : Int) = 95
        · refine Ev.pos h95 ?_
          have e : innerB (c.toNat : Int) = true := by rw [h95]; rfl
          rw [if_pos e, show j + (spanN innerB l + 1) = j + 1 + spanN innerB l by omega] at h
          exact ref_l2 s acc r i p q t n hs l (j + 1) ha.tl h
        · refine Ev.neg h95 ?_
          have e : innerB (c.toNat : Int) = false := by
            unfold innerB
            rw [hcf, hdf, Bool.false_or, Bool.false_or]
            simpa using h95
          rw [e] at h
          exact h
theorem ref_l3_go (s : ByteArray) (acc : List S36) (r : List S36 × Int × Int) (i : Int) (x6 : Int) (p q : Int) (t : ByteArray) (n : Int) (hs : s.size ≤ 16384) : ∀ (l : List UInt8) (j : Nat), At s j l →
    Ev (fun k => drogueref03_Lex.l3 k s acc i x6 ((j + spanN isDigB l : Nat) : Int) p q t n) r → Ev (fun k => drogueref03_Lex.l3 k s acc i x6 (j : Int) p q t n) r
  | [], j, ha, h => h
  | c :: l, j, ha, h => by
    have hlt := ha.lt
    rw [spanN_cons] at h
    by_cases hd : isDigB (c.toNat : Int) = true
    · refine Ev.step ?_
      simp only [drogueref03_Lex.l3]
      rw [ha.bt, w64s j (by omega)]
      refine Ev.pos hlt (Ev.pos (by omega) ?_)
      refine Ev.bind (Ev.const (refdigit_f _)) ?_
      refine Ev.pos hd ?_
      rw [if_pos hd, show j + (spanN isDigB l + 1) = j + 1 + spanN isDigB l by omega] at h
      exact ref_l3_go s acc r i x6 p q t n hs l (j + 1) ha.tl h
    · rw [if_neg hd] at h
      exact h
theorem ref_l3_ok (s : ByteArray) (acc : List S36) (r : List S36 × Int × Int) (i : Nat) (x6 : Int) (p q : Int) (t : ByteArray) (n : Int) (hs : s.size ≤ 16384) (l : List UInt8) (j : Nat) (ha : At s j l) (hj : spanN isDigB l = 0) (hij : i < j)
    (v : Int) (hn : Ev (fun k => drogueref03_number.f k (s.extract i j)) (v, true)) (h6 : x6 = 45 → i + 1 < j) (hacc : acc.length < 16384)
    (h : Ev (fun k => drogueref03_Lex.l0 k s (acc ++ [(⟨3, q, s.extract i j, v⟩ : S36)]) (j : Int)) r) : Ev (fun k => drogueref03_Lex.l3 k s acc (i : Int) x6 (j : Int) p q t n) r := by
  have hle := ha.le
  have hw : wrap64 ((i : Int) + 1) = ((i + 1 : Nat) : Int) := w64s i (by omega)
  have key : Ev (fun k => if 0 ≤ (i : Int) then (if (i : Int) ≤ (j : Int) then (if (j : Int) ≤ (s.size : Int) then ((drogueref03_number.f k (s.extract (i : Int).toNat (j : Int).toNat)).bind fun bt126 => (if bt126.2 = true then (if x6 = 45 then (if ((j : Int) > (wrap64 ((i : Int) + 1))) then (if acc.length < 3518437208883 then (drogueref03_Lex.l0 k s (acc ++ [(⟨3, q, s.extract (i : Int).toNat (j : Int).toNat, bt126.1⟩ : S36)]) (j : Int)) else (none)) else (some (([] : List (S36)), (i : Int), 1))) else (if acc.length < 3518437208883 then (drogueref03_Lex.l0 k s (acc ++ [(⟨3, q, s.extract (i : Int).toNat (j : Int).toNat, bt126.1⟩ : S36)]) (j : Int)) else (none))) else (some (([] : List (S36)), (i : Int), 1)))) else (none)) else (none)) else (none)) r := by
    rw [hw, Int.toNat_natCast, Int.toNat_natCast]
    refine Ev.pos (by omega) (Ev.pos (by omega) (Ev.pos (by omega) (Ev.bind hn (Ev.pos rfl ?_))))
    by_cases h45 : x6 = 45
    · have := h6 h45
      exact Ev.pos h45 (Ev.pos (by omega) (Ev.pos (by omega) h))
    · exact Ev.neg h45 (Ev.pos (by omega) h)
  refine Ev.step ?_
  simp only [drogueref03_Lex.l3]
  cases l with
  | nil =>
    have := ha.nil
    exact Ev.neg (by omega) key
  | cons c l =>
    have hlt := ha.lt
    rw [ha.bt]
    refine Ev.pos hlt (Ev.pos (by omega) (Ev.bind (Ev.const (refdigit_f _)) ?_))
    refine Ev.neg ?_ key
    intro hd
    rw [spanN_cons, if_pos hd] at hj
    omega
theorem ref_l3_bad (s : ByteArray) (acc : List S36) (i : Nat) (x6 : Int) (p q : Int) (t : ByteArray) (n : Int) (hs : s.size ≤ 16384) (l : List UInt8) (j : Nat) (ha : At s j l) (hj : spanN isDigB l = 0) (hij : i < j)
    (v : Int × Bool) (hn : Ev (fun k => drogueref03_number.f k (s.extract i j)) v) (hb : v.2 = false ∨ (x6 = 45 ∧ ¬ i + 1 < j)) : Ev (fun k => drogueref03_Lex.l3 k s acc (i : Int) x6 (j : Int) p q t n) ([], (i : Int), 1) := by
  have hle := ha.le
  have hw : wrap64 ((i : Int) + 1) = ((i + 1 : Nat) : Int) := w64s i (by omega)
  have key : Ev (fun k => if 0 ≤ (i : Int) then (if (i : Int) ≤ (j : Int) then (if (j : Int) ≤ (s.size : Int) then ((drogueref03_number.f k (s.extract (i : Int).toNat (j : Int).toNat)).bind fun bt126 => (if bt126.2 = true then (if x6 = 45 then (if ((j : Int) > (wrap64 ((i : Int) + 1))) then (if acc.length < 3518437208883 then (drogueref03_Lex.l0 k s (acc ++ [(⟨3, q, s.extract (i : Int).toNat (j : Int).toNat, bt126.1⟩ : S36)]) (j : Int)) else (none)) else (some (([] : List (S36)), (i : Int), 1))) else (if acc.length < 3518437208883 then (drogueref03_Lex.l0 k s (acc ++ [(⟨3, q, s.extract (i : Int).toNat (j : Int).toNat, bt126.1⟩ : S36)]) (j : Int)) else (none))) else (some (([] : List (S36)), (i : Int), 1)))) else (none)) else (none)) else (none)) ([], (i : Int), 1) := by
    rw [hw, Int.toNat_natCast, Int.toNat_natCast]
    refine Ev.pos (by omega) (Ev.pos (by omega) (Ev.pos (by omega) (Ev.bind hn ?_)))
    rcases hb with hb | ⟨h45, hb⟩
    · exact Ev.neg (by rw [hb]; decide) (Ev.pure _)
    · by_cases hv : v.2 = true
      · exact Ev.pos hv (Ev.pos h45 (Ev.neg (by omega) (Ev.pure _)))
      · exact Ev.neg hv (Ev.pure _)
  refine Ev.step ?_
  simp only [drogueref03_Lex.l3]
  cases l with
  | nil =>
    have := ha.nil
    exact Ev.neg (by omega) key
  | cons c l =>
    have hlt := ha.lt
    rw [ha.bt]
    refine Ev.pos hlt (Ev.pos (by omega) (Ev.bind (Ev.const (refdigit_f _)) ?_))
    refine Ev.neg ?_ key
    intro hd
    rw [spanN_cons, if_pos hd] at hj
    omega
theorem nat_ne (c : UInt8) (n : UInt8) (h : c ≠ n) : ¬ (c.toNat : Int) = (n.toNat : Int) := fun e => h (UInt8.toNat_inj.1 (by omega))
theorem ref_j1t (s : ByteArray) (acc : List S36) (r : List S36 × Int × Int) (i : Nat) (x6 : Int) (hi : i + 1 < 9223372036854775808) (h : Ev (fun k => drogueref03_Lex.l0 k s acc ((i + 1 : Nat) : Int)) r) : Ev (fun k => drogueref03_Lex.j1 k s acc (i : Int) x6 true) r := by
  refine Ev.step ?_
  simp only [drogueref03_Lex.j1]
  rw [w64s i hi]
  exact Ev.pos trivial h
theorem ref_blank (s : ByteArray) (acc : List S36) (r : List S36 × Int × Int) (i : Nat) (c : UInt8) (l : List UInt8) (hs : s.size ≤ 16384) (ha : At s i (c :: l)) (hb : Blank c) (h : Ev (fun k => drogueref03_Lex.l0 k s acc ((i + 1 : Nat) : Int)) r) : Ev (fun k => drogueref03_Lex.l0 k s acc (i : Int)) r := by
  have hlt := ha.lt
  have hj := fun x6 => ref_j1t s acc r i x6 (by omega) h
  refine Ev.step ?_
  simp only [drogueref03_Lex.l0]
  rw [ha.bt]
  refine Ev.pos hlt (Ev.pos (by omega) ?_)
  rcases hb with rfl | rfl | rfl
  · exact Ev.pos rfl (hj _)
  · exact Ev.neg (by decide) (Ev.pos rfl (hj _))
  · exact Ev.neg (by decide) (Ev.neg (by decide) (hj _))
/-- from a byte that is no blank -/
theorem ref_j1f (s : ByteArray) (acc : List S36) (r : List S36 × Int × Int) (i : Nat) (c : UInt8) (l : List UInt8) (hs : s.size ≤ 16384) (ha : At s i (c :: l)) (hb : ¬ Blank c) (h : Ev (fun k => drogueref03_Lex.j1 k s acc (i : Int) (c.toNat : Int) false) r) : Ev (fun k => drogueref03_Lex.l0 k s acc (i : Int)) r := by
  have hlt := ha.lt
  unfold Blank at hb
  have h1 : ¬ (c.toNat : Int) = 32 := nat_ne c 32 (fun e => hb (Or.inl e))
  have h2 : ¬ (c.toNat : Int) = 9 := nat_ne c 9 (fun e => hb (Or.inr (Or.inl e)))
  have h3 : ¬ (c.toNat : Int) = 10 := nat_ne c 10 (fun e => hb (Or.inr (Or.inr e)))
  have h4 : ((c.toNat : Int) == 10) = false := by simpa using h3
  refine Ev.step ?_
  simp only [drogueref03_Lex.l0]
  rw [ha.bt, h4]
  exact Ev.pos hlt (Ev.pos (by omega) (Ev.neg h1 (Ev.neg h2 h)))
theorem ref_remark (s : ByteArray) (acc : List S36) (r : List S36 × Int × Int) (i : Nat) (l : List UInt8) (hs : s.size ≤ 16384) (ha : At s i (35 :: l)) (h : Ev (fun k => drogueref03_Lex.l0 k s acc ((i + (spanN notLF l + 1) : Nat) : Int)) r) : Ev (fun k => drogueref03_Lex.l0 k s acc (i : Int)) r := by
  refine ref_j1f s acc r i 35 l hs ha (by decide) ?_
  refine Ev.step ?_
  simp only [drogueref03_Lex.j1]
  refine Ev.neg (by decide) (Ev.pos rfl ?_)
  refine ref_l1 s acc r hs (35 :: l) i ha ?_
  rw [spanN_cons, if_pos (by decide)]
  exact h
theorem ref_num (s : ByteArray) (acc : List S36) (r : List S36 × Int × Int) (i : Nat) (c : UInt8) (l : List UInt8) (hs : s.size ≤ 16384) (hacc : acc.length < 16384) (ha : At s i (c :: l)) (hc : ¬ isLetB (c.toNat : Int) = true) (h2 : c = 45 ∨ isDig c = true) :
    (tokB (c :: l) = none → r = ([], (i : Int), 1) → Ev (fun k => drogueref03_Lex.l3 k s acc (i : Int) (c.toNat : Int) (((i + 1 : Nat)) : Int) 0 (i : Int) (⟨#[]⟩ : ByteArray) 0) r) ∧
    (∀ k m v, tokB (c :: l) = some (k, m, v) → Ev (fun f => drogueref03_Lex.l0 f s (acc ++ [(⟨k, (i : Int), ⟨((c :: l).take m).toArray⟩, v⟩ : S36)]) ((i + m : Nat) : Int)) r → Ev (fun k => drogueref03_Lex.l3 k s acc (i : Int) (c.toNat : Int) (((i + 1 : Nat)) : Int) 0 (i : Int) (⟨#[]⟩ : ByteArray) 0) r) := by
  have hlt := ha.lt
  have hlen := ha.len
  simp only [List.length_cons] at hlen
  have hsl := spanN_le isDigB l
  have haj := ha.tl.drop (spanN isDigB l) hsl
  have hst := span_stop isDigB l
  have hex : s.extract i (i + 1 + spanN isDigB l) = ⟨((c :: l).take (1 + spanN isDigB l)).toArray⟩ := by
    have := ha.extract (1 + spanN isDigB l)
    rw [← this, Nat.add_assoc]
  have hdd := digs_dig (r := l) h2
  have hdl : (digsOf c l).length ≤ 16384 := by
    unfold digsOf
    split
    · rw [List.length_take]
      omega
    · rw [List.length_take]
      simp only [List.length_cons]
      omega
  rw [tokB_num hc h2]
  -- the number of the text
  have hn : Ev (fun k => drogueref03_number.f k (s.extract i (i + 1 + spanN isDigB l))) (if valD 0 (digsOf c l) ≤ 1099511627776 then (if c = 45 then -(valD 0 (digsOf c l) : Int) else (valD 0 (digsOf c l) : Int), true) else (0, false)) := by
    rw [hex]
    by_cases h45 : c = 45
    · subst h45
      have e : ((45 : UInt8) :: l).take (1 + spanN isDigB l) = 45 :: digsOf 45 l := by
        unfold digsOf
        rw [if_pos rfl, Nat.add_comm, List.take_succ_cons]
      rw [e]
      have := refnum_neg (digsOf 45 l) hdd (by omega)
      simp only [if_true]
      exact this
    · have hcd := h2.resolve_left h45
      have e : (c :: l).take (1 + spanN isDigB l) = c :: l.take (spanN isDigB l) := by rw [Nat.add_comm, List.take_succ_cons]
      have e2 : digsOf c l = c :: l.take (spanN isDigB l) := by unfold digsOf; rw [if_neg h45, e]
      rw [e, e2]
      have := refnum_dig c (l.take (spanN isDigB l)) hcd (take_all_dig l) (by rw [List.length_take]; omega)
      simp only [if_neg h45]
      exact this
  have h45n : (c.toNat : Int) = 45 → c = 45 := fun h => by
    have h4 : c.toNat = 45 := by omega
    exact UInt8.toNat_inj.1 h4
  have hnil : c = 45 → (digsOf c l = [] ↔ spanN isDigB l = 0) := by
    intro h
    unfold digsOf
    rw [if_pos h, List.take_eq_nil_iff]
    constructor
    · rintro (h | h)
      · exact h
      · subst h; rfl
    · exact Or.inl
  have hnil2 : ¬ c = 45 → digsOf c l ≠ [] := by
    intro h
    unfold digsOf
    rw [if_neg h, Nat.add_comm, List.take_succ_cons]
    simp
  by_cases hb : digsOf c l = [] ∨ 1099511627776 < valD 0 (digsOf c l)
  · rw [if_pos hb]
    refine ⟨fun _ hr => ?_, fun k m v h => by cases h⟩
    subst hr
    refine ref_l3_go s acc _ (i : Int) (c.toNat : Int) 0 (i : Int) ⟨#[]⟩ 0 hs l (i + 1) ha.tl ?_
    refine ref_l3_bad s acc i (c.toNat : Int) 0 (i : Int) ⟨#[]⟩ 0 hs _ _ haj hst (by omega) _ hn ?_
    by_cases hv : valD 0 (digsOf c l) ≤ 1099511627776
    · have hd0 := hb.resolve_right (by omega)
      by_cases h45 : c = 45
      · right
        have := (hnil h45).1 hd0
        exact ⟨by rw [h45]; rfl, by omega⟩
      · exact absurd hd0 (hnil2 h45)
    · left
      rw [if_neg hv]
  · rw [if_neg hb]
    refine ⟨(fun h => by cases h), fun k m v h hr => ?_⟩
    simp only [Option.some.injEq, Prod.mk.injEq] at h
    obtain ⟨rfl, rfl, rfl⟩ := h
    rw [if_pos (by omega)] at hn
    refine ref_l3_go s acc _ (i : Int) (c.toNat : Int) 0 (i : Int) ⟨#[]⟩ 0 hs l (i + 1) ha.tl ?_
    refine ref_l3_ok s acc _ i (c.toNat : Int) 0 (i : Int) ⟨#[]⟩ 0 hs _ _ haj hst (by omega) _ hn ?_ hacc ?_
    · intro h6
      have h45 := h45n h6
      have : spanN isDigB l ≠ 0 := fun h0 => hb (Or.inl ((hnil h45).2 h0))
      omega
    · rw [hex, Nat.add_assoc]
      exact hr
theorem ref_let (s : ByteArray) (acc : List S36) (r : List S36 × Int × Int) (i : Nat) (c : UInt8) (l : List UInt8) (hs : s.size ≤ 16384) (hacc : acc.length < 16384) (ha : At s i (c :: l)) (hc : isLetB (c.toNat : Int) = true) :
    (tokB (c :: l) = none → r = ([], (i : Int), 1) → Ev (fun k => drogueref03_Lex.l2 k s acc (i : Int) ((i + 1 : Nat) : Int) 0 (i : Int) (⟨#[]⟩ : ByteArray) 0) r) ∧
    (∀ k m v, tokB (c :: l) = some (k, m, v) → Ev (fun f => drogueref03_Lex.l0 f s (acc ++ [(⟨k, (i : Int), ⟨((c :: l).take m).toArray⟩, v⟩ : S36)]) ((i + m : Nat) : Int)) r → Ev (fun k => drogueref03_Lex.l2 k s acc (i : Int) ((i + 1 : Nat) : Int) 0 (i : Int) (⟨#[]⟩ : ByteArray) 0) r) := by
  have hlt := ha.lt
  have hlen := ha.len
  simp only [List.length_cons] at hlen
  have hsl := spanN_le innerB l
  have hsp : spanN innerB (c :: l) = spanN innerB l + 1 := by rw [spanN_cons, if_pos (let_inner _ hc)]
  have hex : s.extract i (i + 1 + spanN innerB l) = ⟨((c :: l).take (spanN innerB (c :: l))).toArray⟩ := by
    have := ha.extract (spanN innerB (c :: l))
    rw [← this, hsp, show i + 1 + spanN innerB l = i + (spanN innerB l + 1) by omega]
  have hw : wrap64 (((i + 1 + spanN innerB l : Nat) : Int) - (i : Int)) = ((spanN innerB (c :: l) : Nat) : Int) := by rw [hsp]; unfold wrap64; omega
  have hgo := fun h => ref_l2 s acc r (i : Int) 0 (i : Int) ⟨#[]⟩ 0 hs l (i + 1) ha.tl h
  have hword := refword_ev (s.extract i (i + 1 + spanN innerB l))
  rw [tokB_let hc]
  by_cases h16 : spanN innerB (c :: l) ≤ 16
  · rw [if_pos h16]
    refine ⟨(fun h => by cases h), fun k m v h hr => hgo ?_⟩
    simp only [Option.some.injEq, Prod.mk.injEq] at h
    obtain ⟨rfl, rfl, rfl⟩ := h
    refine Ev.step ?_
    simp only [drogueref03_Lex.j4]
    rw [hw, Int.toNat_natCast, Int.toNat_natCast]
    refine Ev.pos (by omega) (Ev.pos (by omega) (Ev.pos (by omega) (Ev.bind hword ?_)))
    rw [hex]
    rw [show i + 1 + spanN innerB l = i + spanN innerB (c :: l) by omega]
    by_cases hwd : wordB ⟨((c :: l).take (spanN innerB (c :: l))).toArray⟩ = true
    · rw [if_pos hwd] at hr
      exact Ev.pos hwd (Ev.pos (by omega) (Ev.pos (by omega) hr))
    · rw [if_neg hwd] at hr
      exact Ev.neg hwd (Ev.pos (by omega) (Ev.pos (by omega) hr))
  · rw [if_neg h16]
    refine ⟨fun _ hr => hgo ?_, fun k m v h => by cases h⟩
    subst hr
    refine Ev.step ?_
    simp only [drogueref03_Lex.j4]
    rw [hw, Int.toNat_natCast, Int.toNat_natCast]
    refine Ev.pos (by omega) (Ev.pos (by omega) (Ev.pos (by omega) (Ev.bind hword ?_)))
    by_cases hwd : wordB (s.extract i (i + 1 + spanN innerB l)) = true
    · exact Ev.pos hwd (Ev.neg (by omega) (Ev.pure _))
    · exact Ev.neg hwd (Ev.neg (by omega) (Ev.pure _))
theorem ref_tok (s : ByteArray) (acc : List S36) (r : List S36 × Int × Int) (i : Nat) (c : UInt8) (l : List UInt8) (hs : s.size ≤ 16384) (hacc : acc.length < 16384) (ha : At s i (c :: l)) (hb : ¬ Blank c) (h35 : c ≠ 35) :
    (tokB (c :: l) = none → r = ([], (i : Int), 1) → Ev (fun k => drogueref03_Lex.l0 k s acc (i : Int)) r) ∧
    (∀ k m v, tokB (c :: l) = some (k, m, v) → Ev (fun f => drogueref03_Lex.l0 f s (acc ++ [(⟨k, (i : Int), ⟨((c :: l).take m).toArray⟩, v⟩ : S36)]) ((i + m : Nat) : Int)) r → Ev (fun k => drogueref03_Lex.l0 k s acc (i : Int)) r) := by
  have hlt := ha.lt
  have hw : wrap64 ((i : Int) + 1) = ((i + 1 : Nat) : Int) := w64s i (by omega)
  have hn35 : ¬ (c.toNat : Int) = 35 := nat_ne c 35 h35
  -- to the three kinds
  have hgo : (Ev (fun k => (some (isLetB (c.toNat : Int))).bind fun t114 => (if t114 = true then (drogueref03_Lex.l2 k s acc (i : Int) ((i + 1 : Nat) : Int) 0 (i : Int) (⟨#[]⟩ : ByteArray) 0) else ((drogueref03_digit.f (c.toNat : Int)).bind fun t124 => (if t124 = true then (drogueref03_Lex.j5 k s acc (i : Int) (c.toNat : Int) ((i + 1 : Nat) : Int) true true 0 (i : Int) (⟨#[]⟩ : ByteArray) 0) else (drogueref03_Lex.j5 k s acc (i : Int) (c.toNat : Int) ((i + 1 : Nat) : Int) true ((c.toNat : Int) == 45) 0 (i : Int) (⟨#[]⟩ : ByteArray) 0))))) r) → Ev (fun k => drogueref03_Lex.l0 k s acc (i : Int)) r := by
    intro h
    refine ref_j1f s acc r i c l hs ha hb ?_
    refine Ev.step ?_
    simp only [drogueref03_Lex.j1]
    rw [hw, refletter_f]
    exact Ev.neg (by decide) (Ev.neg hn35 h)
  by_cases hc : isLetB (c.toNat : Int) = true
  · obtain ⟨h1, h2⟩ := ref_let s acc r i c l hs hacc ha hc
    exact ⟨fun ht hr => hgo (Ev.bind (Ev.pure _) (Ev.pos hc (h1 ht hr))), fun k m v ht hr => hgo (Ev.bind (Ev.pure _) (Ev.pos hc (h2 k m v ht hr)))⟩
  · by_cases h2 : c = 45 ∨ isDig c = true
    · obtain ⟨h3, h4⟩ := ref_num s acc r i c l hs hacc ha hc h2
      have hgo2 : Ev (fun k => drogueref03_Lex.l3 k s acc (i : Int) (c.toNat : Int) ((i + 1 : Nat) : Int) 0 (i : Int) (⟨#[]⟩ : ByteArray) 0) r → Ev (fun k => drogueref03_Lex.l0 k s acc (i : Int)) r := by
        intro h
        refine hgo (Ev.bind (Ev.pure _) (Ev.neg hc (Ev.bind (Ev.const (refdigit_f _)) ?_)))
        have h5 : Ev (fun k => drogueref03_Lex.j5 k s acc (i : Int) (c.toNat : Int) ((i + 1 : Nat) : Int) true true 0 (i : Int) (⟨#[]⟩ : ByteArray) 0) r := by
          refine Ev.step ?_
          simp only [drogueref03_Lex.j5]
          exact Ev.pos trivial h
        by_cases hd : isDigB (c.toNat : Int) = true
        · exact Ev.pos hd h5
        · refine Ev.neg hd ?_
          have h45 : c = 45 := h2.resolve_right hd
          have : ((c.toNat : Int) == 45) = true := by rw [h45]; rfl
          rw [this]
          exact h5
      exact ⟨fun ht hr => hgo2 (h3 ht hr), fun k m v ht hr => hgo2 (h4 k m v ht hr)⟩
    · have hd : ¬ isDigB (c.toNat : Int) = true := fun h => h2 (Or.inr h)
      have h45 : ((c.toNat : Int) == 45) = false := by
        have := nat_ne c 45 (fun e => h2 (Or.inl e))
        simpa using this
      rw [tokB_sign hc h2]
      have hex : s.extract i (i + 1) = ⟨((c :: l).take 1).toArray⟩ := ha.extract 1
      have hgo2 : Ev (fun k => (drogueref03_sign.f k (c.toNat : Int)).bind fun t142 => (if t142 = true then (if true = true then (if 0 ≤ (i : Int) then (if (i : Int) ≤ ((i + 1 : Nat) : Int) then (if ((i + 1 : Nat) : Int) ≤ (s.size : Int) then (if acc.length < 3518437208883 then (drogueref03_Lex.l0 k s (acc ++ [(⟨4, (i : Int), s.extract i (i + 1), 0⟩ : S36)]) ((i + 1 : Nat) : Int)) else (none)) else (none)) else (none)) else (none)) else (some (([] : List (S36)), (i : Int), 1))) else (some (([] : List (S36)), (i : Int), 1)))) r → Ev (fun k => drogueref03_Lex.l0 k s acc (i : Int)) r := by
        intro h
        refine hgo (Ev.bind (Ev.pure _) (Ev.neg hc (Ev.bind (Ev.const (refdigit_f _)) (Ev.neg hd ?_))))
        rw [h45]
        refine Ev.step ?_
        simp only [drogueref03_Lex.j5]
        rw [Int.toNat_natCast, Int.toNat_natCast]
        exact Ev.neg (by decide) h
      by_cases hg : signB c = true
      · rw [if_pos hg]
        refine ⟨(fun h => by cases h), fun k m v h hr => hgo2 ?_⟩
        simp only [Option.some.injEq, Prod.mk.injEq] at h
        obtain ⟨rfl, rfl, rfl⟩ := h
        have hrs := refsign_ev c
        rw [hg] at hrs
        refine Ev.bind hrs (Ev.pos rfl (Ev.pos rfl (Ev.pos (by omega) (Ev.pos (by omega) (Ev.pos (by omega) (Ev.pos (by omega) ?_))))))
        rw [hex]
        exact hr
      · rw [if_neg hg]
        refine ⟨fun _ hr => hgo2 ?_, fun k m v h => by cases h⟩
        subst hr
        have hrs := refsign_ev c
        have hgf : signB c = false := by simpa using hg
        rw [hgf] at hrs
        exact Ev.bind hrs (Ev.neg (by decide) (Ev.pure _))
theorem lexref {i : Nat} {l : List UInt8} {R : Except Nat (List S35)} (h : Lexes i l R) : ∀ (s : ByteArray) (acc : List S36), At s i l → s.size ≤ 16384 → acc.length + l.length ≤ 16384 → Ev (fun k => drogueref03_Lex.l0 k s acc (i : Int)) (refR acc R) := by
  induction h with
  | nil i =>
    intro s acc ha hs hk
    have := ha.nil
    refine Ev.step ?_
    simp only [drogueref03_Lex.l0]
    refine Ev.neg (by omega) ?_
    have e : refR acc (.ok []) = (acc, 0, 0) := by simp [refR]
    rw [e]
    exact Ev.pure _
  | @blank i c l R hb _ ih =>
    intro s acc ha hs hk
    simp only [List.length_cons] at hk
    exact ref_blank s acc _ i c l hs ha hb (ih s acc ha.tl hs (by omega))
  | @remark i l R _ ih =>
    intro s acc ha hs hk
    simp only [List.length_cons] at hk
    have h1 := spanN_le notLF l
    have ha2 := ha.tl.drop (spanN notLF l) h1
    rw [show i + 1 + spanN notLF l = i + (spanN notLF l + 1) by omega] at ha2
    exact ref_remark s acc _ i l hs ha (ih s acc ha2 hs (by simp only [List.length_drop]; omega))
  | @bad i c l hb h35 ht =>
    intro s acc ha hs hk
    simp only [List.length_cons] at hk
    exact (ref_tok s acc _ i c l hs (by omega) ha hb h35).1 ht rfl
  | @tok i c l R k2 v m hb h35 ht hR ih =>
    intro s acc ha hs hk
    simp only [List.length_cons] at hk
    have hm := (tokB_pos ht).2
    simp only [List.length_cons] at hm
    have ha2 := ha.tl.drop m (by omega)
    rw [show i + 1 + m = i + (m + 1) by omega] at ha2
    refine (ref_tok s acc _ i c l hs (by omega) ha hb h35).2 _ _ _ ht ?_
    rw [← refR_cons]
    exact ih s _ ha2 hs (by simp only [List.length_append, List.length_cons, List.length_nil, List.length_drop]; omega)
theorem reflex_of {s : ByteArray} {R : Except Nat (List S35)} (hs : s.size ≤ 16384) (h : Lexes 0 s.data.toList R) : Ev (fun k => drogueref03_Lex.f k s) (refR [] R) := by
  unfold drogueref03_Lex.f
  refine Ev.neg (by omega) ?_
  exact lexref h s [] (At.zero s) hs (by rw [size_l]; simpa using hs)
theorem reflex_long {s : ByteArray} (hs : 16384 < s.size) : Ev (fun k => drogueref03_Lex.f k s) ([], 16384, 3) := by
  unfold drogueref03_Lex.f
  exact Ev.pos (by omega) (Ev.pure _)
end Go.Proofs.YtnlbbpandnpgoaaDoor.PL
